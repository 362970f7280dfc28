/- A part of the proof. -/
import Derived.Test.YtamoeblcphjbaaaGreatDoorPaLP3
set_option maxHeartbeats 16000000
set_option maxRecDepth 100000
set_option linter.unusedVariables false
set_option linter.unusedSimpArgs false
-- many steps
namespace Go.Proofs.YtamoeblcphjbaaaGreatDoor
open Go Go.Ab
attribute [local irreducible] vc
def GL (t:Bool):List UInt8→List Blk
 | []=>[.cells 83 true [aB t,.pv .nils]]
 | b::r=>[.cells 83 true [aB t,.row 1 1 0 (r.length+1)],.bts 5 (b::r)]
theorem s8 (t:Bool)(l:List UInt8)(hl:l.length≤100000000):aF Tryz.prog aM 1 52 [.ptr 0 0] (bB t l) (.pv (.str l)) (GL t l):=by
 refine aF.intro CS (by simp[F52]) ?_
 cases l with
 | nil=>
   cases t<;>(
   simp(maxSteps:=9^7) (disch:=try exact dI) only[F52,bB,aB,push_cast,seval]
   exact am [] (by simp(maxSteps:=9^7) (disch:=try exact dI) only[GL,aB,push_cast,seval]))
 | cons b r=>
   have hA:=fun (k:Int) (q:Nat) (hk:k=((b::r).length:Int))=>sQ (t:=5) (r:=q) (f:=false) (l:=b::r) hk (by simp) (by simp at hl ⊢;omega)
   cases t<;>(
   simp(maxSteps:=9^7) (disch:=try exact dI) only[F52,bB,aB,hA,push_cast,seval]
   exact am [] (by simp(maxSteps:=9^7) (disch:=try exact dI) only[GL,aB,push_cast,seval]))
theorem s7 (t:Bool)(l:List UInt8)(hl:l.length≤100000000):aF Tryz.prog aM 1 52 [.ptr 0 0] (GL t l) (.pv (.str l)) (stB l):=by
 refine aF.intro CS (by simp[F52]) ?_
 cases l with
 | nil=>
   cases t<;>(
   simp(maxSteps:=9^7) (disch:=try exact dI) only[F52,GL,aB,push_cast,seval]
   exact am [] (by simp(maxSteps:=9^7) (disch:=try exact dI) only[stB,push_cast,seval]))
 | cons b r=>
   have hA:=fun (k:Int) (q:Nat) (hk:k=((b::r).length:Int))=>xW (t:=5) (r:=q) (l:=b::r) hk (by simp) (by simp at hl ⊢;omega)
   cases t<;>(
   simp(maxSteps:=9^7) (disch:=try exact dI) only[F52,GL,aB,hA,push_cast,seval]
   exact am [] (by simp(maxSteps:=9^7) (disch:=try exact dI) only[stB,push_cast,seval]))
def hdS (R:Rd)(a:Nat):Nat×List UInt8→St
 | (j,[])=>⟨[(0,.ptr 0 0),(1,.pv (.int .i64 (a:Int))),(4,.ptr 1 0),(5,.pv (.int .i64 (j:Int)))],[(0,rdB R),(1,.cells 83 true [.pv .nilp,.pv .nils])],2⟩
 | (j,b::r)=>⟨[(0,.ptr 0 0),(1,.pv (.int .i64 (a:Int))),(4,.ptr 1 0),(5,.pv (.int .i64 (j:Int)))],[(0,rdB R),(1,.cells 83 true [.ptr 1 0,.row 2 1 0 (r.length+1)]),(2,.cells 5 false ((az (b::r)).map .pv))],3⟩
theorem J5 (n:Nat):1≤(Go.Utf8.encode (n:Int)).data.toList.length∧(Go.Utf8.encode (n:Int)).data.toList.length≤4:=by
 unfold Go.Utf8.encode
 generalize (if Go.Utf8.valid (n:Int)=true then (n:Int).toNat else Go.Utf8.runeError)=c
 dsimp only
 repeat' split
 all_goals exact⟨Nat.le_of_ble_eq_true rfl,Nat.le_of_ble_eq_true rfl⟩
theorem lU {n:Nat}{t:List UInt8}(h:eQ n=some t):1≤t.length∧t.length≤4:=by
 unfold eQ at h
 split at h
 ·have:=Option.some.inj h
  rw[← this];exact J5 n
 ·cases h
theorem jK {s:List UInt8}(h:(fQ s).2=0):1≤(fQ s).1.2∧(fQ s).1.2≤s.length∧1≤(fQ s).1.1.length∧(fQ s).1.1.length≤4:=by
 cases s with
 | nil=>exact absurd h (by simp[fQ])
 | cons c r=>
   cases hE:pI c with
   | some b=>rw[kX hE];simp
   | none=>
     rw[Hp hE] at h ⊢
     split at h
     ·rename_i hp
      rw[if_pos hp]
      have hpl:2≤(c::r).length:=(of_decide_eq_true hp).2
      obtain⟨U,hU⟩:∃ U,U=(c::r).drop 2:=⟨_,rfl⟩
      have hUl:U.length+2=(c::r).length:=by rw[hU,List.length_drop];omega
      rw[← hU] at h ⊢
      cases hC:fV 125 U with
      | none=>rw[Hn hC] at h;simp at h
      | some q=>
        obtain⟨d,e⟩:=q
        by_cases hd:d.length<1∨6<d.length
        ·rw[BS hC hd] at h;simp at h
        ·rw[Ho hC hd] at h ⊢
         have hs:=(fw 0 hC).2
         have hsl:U.length=d.length+(e.length+1):=by rw[hs];simp
         cases hx:js 0 d with
         | none=>rw[hx] at h;simp[J2] at h
         | some n=>
           rw[hx] at h
           simp only[J2] at h ⊢
           cases hp:eQ n with
           | none=>rw[hp] at h;simp at h
           | some t=>
             have:=lU hp
             simp only
             omega
     ·simp at h
theorem iq {f:Nat}{c:UInt8}{r:List UInt8}{i:Nat}{o:List UInt8}(h:c.toNat=34):ir (f+1) (c::r) i o = .done o (i+1):=by rw[ir,if_pos h]
theorem fF {f:Nat}{c:UInt8}{r:List UInt8}{i:Nat}{o:List UInt8}(h:¬ c.toNat=34)(h2:c.toNat<32∨c.toNat=127):ir (f+1) (c::r) i o = .bad i 6:=by rw[ir,if_neg h,if_pos h2]
theorem dj {f:Nat}{c:UInt8}{r:List UInt8}{i:Nat}{o:List UInt8}(h:¬ c.toNat=34)(h2:¬ (c.toNat<32∨c.toNat=127))(h3:¬ c.toNat=92):ir (f+1) (c::r) i o=ir f r (i+1) (o++[c]):=by rw[ir,if_neg h,if_neg h2,if_neg h3]
theorem d6 {f:Nat}{c:UInt8}{i:Nat}{o:List UInt8}(h:c.toNat=92):ir (f+1) [c] i o = .short:=by rw[ir,if_neg (by omega),if_neg (by omega),if_pos h,if_pos rfl]
theorem fD {f:Nat}{c:UInt8}{r:List UInt8}{i:Nat}{o:List UInt8}(h:c.toNat=92)(h2:r≠[]):ir (f+1) (c::r) i o=if (fQ r).2=0 then ir f (r.drop (fQ r).1.2) (i+1+(fQ r).1.2) (o++(fQ r).1.1) else .bad i (fQ r).2:=by rw[ir,if_neg (by omega),if_neg (by omega),if_pos h,if_neg h2]
theorem fE (f:Nat)(i:Nat)(o:List UInt8):ir f [] i o = .short:=by cases f<;>rfl
section
variable {T:Nat}{p:PV}
theorem mL (s:List UInt8):au Tryz.prog aM 180 [.str s] (.bool (Lib.validD s)):=by
 have h:=fS s
 generalize Lib.validD s=b at *
 refine au.intro K9 (by simp[Sf]) ?_
 simp(maxSteps:=9^7) (disch:=try exact dI) only[Sf,push_cast,seval]
 refine ab.pure h rfl ?_
 simp(maxSteps:=9^7) (disch:=try exact dI) only[push_cast,seval]
theorem MN (R:Rd)(a:Nat)(hs:R.s.length≤65536)(ha:a<R.s.length)(hE:R.e=0):aF Tryz.prog (bG T p) 1 160 [.ptr 0 0,.pv (.int .i64 (a:Int))] [rdB R] (.pv (.tup [])) [rdB (xr R a)]:=by
 have hf:=fun i e=>cR (T:=T) (p:=p) R i e
 unfold xr
 obtain⟨Z,hZ⟩:∃ Z,Z=ir (R.s.length+1) (R.s.drop (a+1)) (a+1) []:=⟨_,rfl⟩
 rw[← hZ]
 refine aF.intro Ln (by simp[Sl]) ?_
 simp(maxSteps:=9^7) (disch:=try exact dI) only[Sl,push_cast,seval]
 refine jT [] (hdS R a) (fun y=>y.1≤R.s.length∧y.2.length≤4*y.1∧∃ f,R.s.length<f+y.1∧Z=ir f (R.s.drop y.1) y.1 y.2) (fun y=>R.s.length - y.1) (a+1,[]) ?_ ?_ ?_
 ·exact bz (by simp(maxSteps:=9^7) (disch:=try exact dI) only[hdS,rdB,rdC,push_cast,seval])
 ·exact⟨by simp only;omega,by simp,R.s.length+1,by simp only;omega,hZ⟩
 rintro⟨j,out⟩ ⟨hj,ho,f,hfj,hZj⟩
 simp only at hj ho hfj hZj
 obtain⟨f,rfl⟩:∃ g,f=g+1:=⟨f - 1,by omega⟩
 cases out with
 | nil=>
   by_cases hlt:j<R.s.length
   ·obtain⟨c,hc⟩:∃ c,R.s[j]? = some c:=⟨_,List.getElem?_eq_getElem hlt⟩
    have hltI:(j:Int)<(R.s.length:Int):=by omega
    rw[aP hc] at hZj
    by_cases h34:c.toNat=34
    ·have h34I:((c.toNat:Int)=34)=True:=eq_true (by omega)
     rw[iq h34] at hZj
     subst hZj
     have k1:=jr (T:=T) (p:=p) (s8 false [] (by simp only[List.length_cons,List.length_nil] at ho ⊢;omega))
     have k3:=jr (T:=T) (p:=p) (s7 false [] (by simp only[List.length_cons,List.length_nil] at ho ⊢;omega))
     have k2:=toE (T:=T) (p:=p) (mL [])
     simp only[bB,GL,aB,stB] at k1 k3
     simp only[bd]
     cases hv:Lib.validD [] with
     | true=>
       rw[hv] at k2
       rw[if_neg (fun h=>by cases h.2)]
       simp(maxSteps:=9^7) (disch:=try exact dI) only[hdS,hltI,hc,ae,h34I,rdB,rdC,push_cast,seval]
       refine ab.lentK k1 [1] rfl qsZ qsZ ?_
       simp(maxSteps:=9^7) (disch:=try exact dI) only[push_cast,seval]
       refine ab.pure k2 rfl ?_
       simp(maxSteps:=9^7) (disch:=try exact dI) only[push_cast,seval]
       refine ab.lentK k3 [1] rfl qsZ qsZ ?_
       simp(maxSteps:=9^7) (disch:=try exact dI) only[push_cast,seval]
       exact am [] (by simp(maxSteps:=9^7) (disch:=try exact dI) only[rdB,rdC,push_cast,seval])
     | false=>
       rw[hv] at k2
       rw[if_pos (by simp)]
       have hfa:=hf a 16
       simp only[rdB,rdC] at hfa
       simp(maxSteps:=9^7) (disch:=try exact dI) only[hdS,hltI,hc,ae,h34I,rdB,rdC,push_cast,seval]
       refine ab.lentK k1 [1] rfl qsZ qsZ ?_
       simp(maxSteps:=9^7) (disch:=try exact dI) only[push_cast,seval]
       refine ab.pure k2 rfl ?_
       simp(maxSteps:=9^7) (disch:=try exact dI) only[push_cast,seval]
       refine ab.lentK hfa [0] rfl qsZ qsZ ?_
       simp(maxSteps:=9^7) (disch:=try exact dI) only[push_cast,seval]
       refine ab.lentK k3 [1] rfl qsZ qsZ ?_
       simp(maxSteps:=9^7) (disch:=try exact dI) only[push_cast,seval]
       exact am [] (by simp(maxSteps:=9^7) (disch:=try exact dI) only[rdB,rdC,push_cast,seval])
    have h34I:¬ (c.toNat:Int)=34:=by omega
    by_cases hbd:c.toNat<32∨c.toNat=127
    ·rw[fF h34 hbd] at hZj
     subst hZj
     have hfa:=hf j 6
     simp only[rdB,rdC] at hfa
     by_cases h32:c.toNat<32
     ·have h32I:(c.toNat:Int)<32:=by omega
      simp(maxSteps:=9^7) (disch:=try exact dI) only[hdS,hltI,hc,ae,h34I,h32I,rdB,rdC,push_cast,seval]
      refine ab.lentK hfa [0] rfl qsZ qsZ ?_
      simp(maxSteps:=9^7) (disch:=try exact dI) only[push_cast,seval]
      exact am [] (by simp(maxSteps:=9^7) (disch:=try exact dI) only[bd,rdB,rdC,push_cast,seval])
     ·have h32I:¬ (c.toNat:Int)<32:=by omega
      have h127:((c.toNat:Int)=127)=True:=eq_true (by omega)
      simp(maxSteps:=9^7) (disch:=try exact dI) only[hdS,hltI,hc,ae,h34I,h32I,h127,rdB,rdC,push_cast,seval]
      refine ab.lentK hfa [0] rfl qsZ qsZ ?_
      simp(maxSteps:=9^7) (disch:=try exact dI) only[push_cast,seval]
      exact am [] (by simp(maxSteps:=9^7) (disch:=try exact dI) only[bd,rdB,rdC,push_cast,seval])
    have h32I:¬ (c.toNat:Int)<32:=by omega
    have h127I:¬ (c.toNat:Int)=127:=by omega
    by_cases h92:c.toNat=92
    ·have h92I:((c.toNat:Int)=92)=True:=eq_true (by omega)
     by_cases hl1:j+1<R.s.length
     ·have hl1I:(j:Int)+1<(R.s.length:Int):=by omega
      have hne:R.s.drop (j+1)≠[]:=by
       intro h
       have:=congrArg List.length h
       simp at this;omega
      rw[fD h92 hne] at hZj
      have hx:=toE (T:=T) (p:=p) (pH (R.s.drop (j+1)) hne (by rw[List.length_drop];omega))
      have hel:=jK (s:=R.s.drop (j+1))
      rw[List.length_drop] at hel
      have hdr:(R.s.drop (j+1)).drop (fQ (R.s.drop (j+1))).1.2=R.s.drop (j+1+(fQ (R.s.drop (j+1))).1.2):=by rw[List.drop_drop]
      rw[hdr] at hZj
      generalize fQ (R.s.drop (j+1))=E at *
      obtain⟨⟨x,sz⟩,er⟩:=E
      simp only[BR] at hx hel hZj
      obtain⟨q,hq⟩:∃ q,q=R.s.drop (j+1):=⟨_,rfl⟩
      have htn:((j:Int)+1).toNat=j+1:=by omega
      by_cases her:er=0
      ·subst her
       rw[if_pos rfl] at hZj
       obtain⟨e1,e2,e4,e3⟩:=hel rfl
       have k1:=jr (T:=T) (p:=p) (GE false [] x (by simp only[List.length_cons,List.length_nil] at ho ⊢;omega) (by omega))
       cases x with
       | nil=>exact absurd e4 (by simp)
       | cons x0 xs=>
         simp only[bB,aB,List.nil_append,List.cons_append] at k1
         simp(maxSteps:=9^7) (disch:=try exact dI) only[hdS,hltI,hc,ae,h34I,h32I,h127I,h92I,hl1I,htn,rdB,rdC,push_cast,seval]
         refine ab.pure hx (by simp(maxSteps:=9^7) (disch:=try exact dI) only[List.take_length,push_cast,seval]) ?_
         simp(maxSteps:=9^7) (disch:=try exact dI) only[push_cast,seval]
         refine ab.lentK k1 [1] rfl qsZ qsZ ?_
         simp(maxSteps:=9^7) (disch:=try exact dI) only[push_cast,seval]
         exact⟨(j+1+sz,x0::xs),bz (by simp(maxSteps:=9^7) (disch:=try exact dI) only[hdS,rdB,rdC,Nat.add_right_comm,push_cast,seval]),⟨by simp only;omega,by simp only[List.length_cons,List.length_append,List.length_nil] at ho e3 ⊢;omega,f,by simp only;omega,hZj⟩,by simp only;omega⟩
      ·have herI:¬ er=0:=her
       rw[if_neg her] at hZj
       subst hZj
       have hfa:=hf j er
       simp only[rdB,rdC] at hfa
       simp(maxSteps:=9^7) (disch:=try exact dI) only[hdS,hltI,hc,ae,h34I,h32I,h127I,h92I,hl1I,htn,rdB,rdC,push_cast,seval]
       refine ab.pure hx (by simp(maxSteps:=9^7) (disch:=try exact dI) only[List.take_length,push_cast,seval]) ?_
       simp(maxSteps:=9^7) (disch:=try exact dI) only[herI,push_cast,seval]
       refine ab.lentK hfa [0] rfl qsZ qsZ ?_
       simp(maxSteps:=9^7) (disch:=try exact dI) only[push_cast,seval]
       exact am [] (by simp(maxSteps:=9^7) (disch:=try exact dI) only[bd,rdB,rdC,push_cast,seval])
     ·have hl1I:¬ (j:Int)+1<(R.s.length:Int):=by omega
      have hnil:R.s.drop (j+1)=[]:=List.drop_eq_nil_of_le (by omega)
      rw[hnil,d6 h92] at hZj
      simp(maxSteps:=9^7) (disch:=try exact dI) only[hdS,hltI,hc,ae,h34I,h32I,h127I,h92I,hl1I,rdB,rdC,push_cast,seval]
      exact⟨(j+1,[]),bz (by simp(maxSteps:=9^7) (disch:=try exact dI) only[hdS,rdB,rdC,push_cast,seval]),⟨by simp only;omega,by simp only[List.length_cons,List.length_nil] at ho ⊢;omega,f+1,by simp only;omega,by simp only;rw[hnil,fE];exact hZj⟩,by simp only;omega⟩
    ·have h92I:¬ (c.toNat:Int)=92:=by omega
     rw[dj h34 hbd h92] at hZj
     have k1:=jr (T:=T) (p:=p) (sL false [] c (by simp only[List.length_cons,List.length_nil] at ho ⊢;omega))
     simp only[bB,aB,List.nil_append,List.cons_append] at k1
     simp(maxSteps:=9^7) (disch:=try exact dI) only[hdS,hltI,hc,ae,h34I,h32I,h127I,h92I,rdB,rdC,push_cast,seval]
     refine ab.lentK k1 [1] rfl qsZ qsZ ?_
     simp(maxSteps:=9^7) (disch:=try exact dI) only[push_cast,seval]
     exact⟨(j+1,[c]),bz (by simp(maxSteps:=9^7) (disch:=try exact dI) only[hdS,rdB,rdC,push_cast,seval]),⟨by simp only;omega,by simp only[List.length_cons,List.length_append,List.length_nil] at ho ⊢;omega,f,by simp only;omega,hZj⟩,by simp only;omega⟩
   ·have hltI:¬ (j:Int)<(R.s.length:Int):=by omega
    obtain rfl:j=R.s.length:=by omega
    rw[List.drop_length,fE] at hZj
    subst hZj
    have hfa:=hf a 4
    simp only[rdB,rdC] at hfa
    simp(maxSteps:=9^7) (disch:=try exact dI) only[hdS,hltI,rdB,rdC,push_cast,seval]
    refine ab.lentK hfa [0] rfl qsZ qsZ ?_
    simp(maxSteps:=9^7) (disch:=try exact dI) only[push_cast,seval]
    exact am [] (by simp(maxSteps:=9^7) (disch:=try exact dI) only[bd,rdB,rdC,push_cast,seval])
 | cons b r=>
   by_cases hlt:j<R.s.length
   ·obtain⟨c,hc⟩:∃ c,R.s[j]? = some c:=⟨_,List.getElem?_eq_getElem hlt⟩
    have hltI:(j:Int)<(R.s.length:Int):=by omega
    rw[aP hc] at hZj
    by_cases h34:c.toNat=34
    ·have h34I:((c.toNat:Int)=34)=True:=eq_true (by omega)
     rw[iq h34] at hZj
     subst hZj
     have k1:=jr (T:=T) (p:=p) (s8 true (b::r) (by simp only[List.length_cons,List.length_nil] at ho ⊢;omega))
     have k3:=jr (T:=T) (p:=p) (s7 true (b::r) (by simp only[List.length_cons,List.length_nil] at ho ⊢;omega))
     have k2:=toE (T:=T) (p:=p) (mL (b::r))
     simp only[bB,GL,aB,stB] at k1 k3
     simp only[bd]
     cases hv:Lib.validD (b::r) with
     | true=>
       rw[hv] at k2
       rw[if_neg (fun h=>by cases h.2)]
       simp(maxSteps:=9^7) (disch:=try exact dI) only[hdS,hltI,hc,ae,h34I,rdB,rdC,push_cast,seval]
       refine ab.lentK k1 [1,2] rfl qsZ qsZ ?_
       simp(maxSteps:=9^7) (disch:=try exact dI) only[push_cast,seval]
       refine ab.pure k2 rfl ?_
       simp(maxSteps:=9^7) (disch:=try exact dI) only[push_cast,seval]
       refine ab.lentK k3 [1,5] rfl qsZ qsZ ?_
       simp(maxSteps:=9^7) (disch:=try exact dI) only[push_cast,seval]
       exact am [] (by simp(maxSteps:=9^7) (disch:=try exact dI) only[rdB,rdC,push_cast,seval])
     | false=>
       rw[hv] at k2
       rw[if_pos (by simp)]
       have hfa:=hf a 16
       simp only[rdB,rdC] at hfa
       simp(maxSteps:=9^7) (disch:=try exact dI) only[hdS,hltI,hc,ae,h34I,rdB,rdC,push_cast,seval]
       refine ab.lentK k1 [1,2] rfl qsZ qsZ ?_
       simp(maxSteps:=9^7) (disch:=try exact dI) only[push_cast,seval]
       refine ab.pure k2 rfl ?_
       simp(maxSteps:=9^7) (disch:=try exact dI) only[push_cast,seval]
       refine ab.lentK hfa [0] rfl qsZ qsZ ?_
       simp(maxSteps:=9^7) (disch:=try exact dI) only[push_cast,seval]
       refine ab.lentK k3 [1,5] rfl qsZ qsZ ?_
       simp(maxSteps:=9^7) (disch:=try exact dI) only[push_cast,seval]
       exact am [] (by simp(maxSteps:=9^7) (disch:=try exact dI) only[rdB,rdC,push_cast,seval])
    have h34I:¬ (c.toNat:Int)=34:=by omega
    by_cases hbd:c.toNat<32∨c.toNat=127
    ·rw[fF h34 hbd] at hZj
     subst hZj
     have hfa:=hf j 6
     simp only[rdB,rdC] at hfa
     by_cases h32:c.toNat<32
     ·have h32I:(c.toNat:Int)<32:=by omega
      simp(maxSteps:=9^7) (disch:=try exact dI) only[hdS,hltI,hc,ae,h34I,h32I,rdB,rdC,push_cast,seval]
      refine ab.lentK hfa [0] rfl qsZ qsZ ?_
      simp(maxSteps:=9^7) (disch:=try exact dI) only[push_cast,seval]
      exact am [] (by simp(maxSteps:=9^7) (disch:=try exact dI) only[bd,rdB,rdC,push_cast,seval])
     ·have h32I:¬ (c.toNat:Int)<32:=by omega
      have h127:((c.toNat:Int)=127)=True:=eq_true (by omega)
      simp(maxSteps:=9^7) (disch:=try exact dI) only[hdS,hltI,hc,ae,h34I,h32I,h127,rdB,rdC,push_cast,seval]
      refine ab.lentK hfa [0] rfl qsZ qsZ ?_
      simp(maxSteps:=9^7) (disch:=try exact dI) only[push_cast,seval]
      exact am [] (by simp(maxSteps:=9^7) (disch:=try exact dI) only[bd,rdB,rdC,push_cast,seval])
    have h32I:¬ (c.toNat:Int)<32:=by omega
    have h127I:¬ (c.toNat:Int)=127:=by omega
    by_cases h92:c.toNat=92
    ·have h92I:((c.toNat:Int)=92)=True:=eq_true (by omega)
     by_cases hl1:j+1<R.s.length
     ·have hl1I:(j:Int)+1<(R.s.length:Int):=by omega
      have hne:R.s.drop (j+1)≠[]:=by
       intro h
       have:=congrArg List.length h
       simp at this;omega
      rw[fD h92 hne] at hZj
      have hx:=toE (T:=T) (p:=p) (pH (R.s.drop (j+1)) hne (by rw[List.length_drop];omega))
      have hel:=jK (s:=R.s.drop (j+1))
      rw[List.length_drop] at hel
      have hdr:(R.s.drop (j+1)).drop (fQ (R.s.drop (j+1))).1.2=R.s.drop (j+1+(fQ (R.s.drop (j+1))).1.2):=by rw[List.drop_drop]
      rw[hdr] at hZj
      generalize fQ (R.s.drop (j+1))=E at *
      obtain⟨⟨x,sz⟩,er⟩:=E
      simp only[BR] at hx hel hZj
      obtain⟨q,hq⟩:∃ q,q=R.s.drop (j+1):=⟨_,rfl⟩
      have htn:((j:Int)+1).toNat=j+1:=by omega
      by_cases her:er=0
      ·subst her
       rw[if_pos rfl] at hZj
       obtain⟨e1,e2,e4,e3⟩:=hel rfl
       have k1:=jr (T:=T) (p:=p) (GE true (b::r) x (by simp only[List.length_cons,List.length_nil] at ho ⊢;omega) (by omega))
       cases x with
       | nil=>exact absurd e4 (by simp)
       | cons x0 xs=>
         simp only[bB,aB,List.nil_append,List.cons_append] at k1
         simp(maxSteps:=9^7) (disch:=try exact dI) only[hdS,hltI,hc,ae,h34I,h32I,h127I,h92I,hl1I,htn,rdB,rdC,push_cast,seval]
         refine ab.pure hx (by simp(maxSteps:=9^7) (disch:=try exact dI) only[List.take_length,push_cast,seval]) ?_
         simp(maxSteps:=9^7) (disch:=try exact dI) only[push_cast,seval]
         refine ab.lentK k1 [1,2] rfl qsZ qsZ ?_
         simp(maxSteps:=9^7) (disch:=try exact dI) only[push_cast,seval]
         exact⟨(j+1+sz,b::(r++x0::xs)),bz (by simp(maxSteps:=9^7) (disch:=try exact dI) only[hdS,rdB,rdC,Nat.add_right_comm,push_cast,seval]),⟨by simp only;omega,by simp only[List.length_cons,List.length_append,List.length_nil] at ho e3 ⊢;omega,f,by simp only;omega,hZj⟩,by simp only;omega⟩
      ·have herI:¬ er=0:=her
       rw[if_neg her] at hZj
       subst hZj
       have hfa:=hf j er
       simp only[rdB,rdC] at hfa
       simp(maxSteps:=9^7) (disch:=try exact dI) only[hdS,hltI,hc,ae,h34I,h32I,h127I,h92I,hl1I,htn,rdB,rdC,push_cast,seval]
       refine ab.pure hx (by simp(maxSteps:=9^7) (disch:=try exact dI) only[List.take_length,push_cast,seval]) ?_
       simp(maxSteps:=9^7) (disch:=try exact dI) only[herI,push_cast,seval]
       refine ab.lentK hfa [0] rfl qsZ qsZ ?_
       simp(maxSteps:=9^7) (disch:=try exact dI) only[push_cast,seval]
       exact am [] (by simp(maxSteps:=9^7) (disch:=try exact dI) only[bd,rdB,rdC,push_cast,seval])
     ·have hl1I:¬ (j:Int)+1<(R.s.length:Int):=by omega
      have hnil:R.s.drop (j+1)=[]:=List.drop_eq_nil_of_le (by omega)
      rw[hnil,d6 h92] at hZj
      simp(maxSteps:=9^7) (disch:=try exact dI) only[hdS,hltI,hc,ae,h34I,h32I,h127I,h92I,hl1I,rdB,rdC,push_cast,seval]
      exact⟨(j+1,(b::r)),bz (by simp(maxSteps:=9^7) (disch:=try exact dI) only[hdS,rdB,rdC,push_cast,seval]),⟨by simp only;omega,by simp only[List.length_cons,List.length_nil] at ho ⊢;omega,f+1,by simp only;omega,by simp only;rw[hnil,fE];exact hZj⟩,by simp only;omega⟩
    ·have h92I:¬ (c.toNat:Int)=92:=by omega
     rw[dj h34 hbd h92] at hZj
     have k1:=jr (T:=T) (p:=p) (sL true (b::r) c (by simp only[List.length_cons,List.length_nil] at ho ⊢;omega))
     simp only[bB,aB,List.nil_append,List.cons_append] at k1
     simp(maxSteps:=9^7) (disch:=try exact dI) only[hdS,hltI,hc,ae,h34I,h32I,h127I,h92I,rdB,rdC,push_cast,seval]
     refine ab.lentK k1 [1,2] rfl qsZ qsZ ?_
     simp(maxSteps:=9^7) (disch:=try exact dI) only[push_cast,seval]
     exact⟨(j+1,b::(r++[c])),bz (by simp(maxSteps:=9^7) (disch:=try exact dI) only[hdS,rdB,rdC,push_cast,seval]),⟨by simp only;omega,by simp only[List.length_cons,List.length_append,List.length_nil] at ho ⊢;omega,f,by simp only;omega,hZj⟩,by simp only;omega⟩
   ·have hltI:¬ (j:Int)<(R.s.length:Int):=by omega
    obtain rfl:j=R.s.length:=by omega
    rw[List.drop_length,fE] at hZj
    subst hZj
    have hfa:=hf a 4
    simp only[rdB,rdC] at hfa
    simp(maxSteps:=9^7) (disch:=try exact dI) only[hdS,hltI,rdB,rdC,push_cast,seval]
    refine ab.lentK hfa [0] rfl qsZ qsZ ?_
    simp(maxSteps:=9^7) (disch:=try exact dI) only[push_cast,seval]
    exact am [] (by simp(maxSteps:=9^7) (disch:=try exact dI) only[bd,rdB,rdC,push_cast,seval])
end
end Go.Proofs.YtamoeblcphjbaaaGreatDoor
