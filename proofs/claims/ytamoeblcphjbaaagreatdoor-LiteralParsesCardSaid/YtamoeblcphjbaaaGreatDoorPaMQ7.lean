/- A part of the proof. -/
import Derived.Test.YtamoeblcphjbaaaGreatDoorPaMQ6
set_option maxHeartbeats 16000000
set_option maxRecDepth 100000
set_option linter.unusedVariables false
set_option linter.unusedSimpArgs false
-- many steps
namespace Go.Proofs.YtamoeblcphjbaaaGreatDoor
open Go Go.Ab
attribute [local irreducible] vc
theorem EI (l:List Fld)(nm:List UInt8):i7 l nm l.length=l.length:=by
 unfold i7;rw[List.drop_eq_nil_of_le (Nat.le_refl _)];rfl
theorem EH {l:List Fld}{nm:List UInt8}{i:Nat}{x:Fld}(h:l[i]? = some x)(hg:gtN x.name nm=true):i7 l nm i=i:=by
 unfold i7;rw[aP h,oT,if_pos hg]
theorem zJ {l:List Fld}{nm:List UInt8}{i:Nat}{x:Fld}(h:l[i]? = some x)(hg:gtN x.name nm=false):i7 l nm i=i7 l nm (i+1):=by
 unfold i7;rw[aP h,oT,if_neg (by rw[hg];decide)]
theorem zP (nm:List UInt8):∀ (r:List Fld) (i:Nat),i≤oT nm i r∧oT nm i r≤i+r.length
 | [],i=>⟨Nat.le_refl _,Nat.le_refl _⟩
 | x::r,i=>by
   rw[oT]
   split
   ·simp
   ·have:=zP nm r (i+1)
    rw[List.length_cons];omega
theorem zO {l:List Fld}{nm:List UInt8}{i:Nat}(h:i≤l.length):i7 l nm i≤l.length:=by
 have:=(zP nm (l.drop i) i).2
 rw[List.length_drop] at this
 unfold i7;omega
theorem J6 (M:Mo)(t:Tm):jL M t []=M:=if_neg (fun q=>by obtain⟨_,x,hx,_⟩:=q;cases hx)
theorem J7 {M:Mo}{t:Tm}{x:Fld}{r:List Fld}(hk:t.k=119)(hx:x.name=t.x):jL M t (x::r)=aU (jL M t r) 7 t.p:=by
 rw[show jL M t (x::r)=aU M 7 t.p from if_pos ⟨hk,x,by simp,hx⟩]
 unfold jL
 split
 ·unfold aU
  by_cases h:M.e=0
  ·rw[if_pos h];rfl
  ·rw[if_neg h,if_neg h]
 ·rfl
theorem F2 {M:Mo}{t:Tm}{x:Fld}{r:List Fld}(h:¬ (x.name=t.x∧t.k=119)):jL M t (x::r)=jL M t r:=by
 unfold jL
 have:(t.k=119∧∃ y∈x::r,y.name=t.x)↔(t.k=119∧∃ y∈r,y.name=t.x):=by
  constructor
  ·rintro⟨h1,y,hy,h2⟩
   rcases List.mem_cons.1 hy with rfl | hy
   ·exact absurd ⟨h2,h1⟩ h
   ·exact⟨h1,y,hy,h2⟩
  ·rintro⟨h1,y,hy,h2⟩
   exact⟨h1,y,List.mem_cons_of_mem _ hy,h2⟩
 simp only[this]
theorem pE (x:Fld):x.pv.cells.length=7:=by
 obtain⟨cs,e,h,_⟩:=BF x
 rw[e];simp[PV.cells,h]
theorem Kf {l:List Fld}{n a:Nat}(hn:n=l.length):rm 7 (l.map Fld.pv) n (some a)=some (.pv (.list ((l.drop a).map Fld.pv))):=by
 subst hn
 rw[l6]
 ·rw[List.map_drop,List.take_of_length_le (by rw[List.length_map];exact Nat.le_refl _)]
 ·unfold H2
  cases a with
  | zero=>rfl
  | succ a=>
    simp only[List.getElem?_map]
    cases l[a+1]? with
    | none=>rfl
    | some x=>simp[pE]
section
variable {T:Nat}{p:PV}
def CM (T:Nat)(p:PV)(val:Mo→Val×Mo)(s:List UInt8)(d:Nat):Prop:=
 ∀ M,OkM M→M.s=s→aF Tryz.prog (bG T p) 1 54 [.ptr 0 0,.pv (.int .i64 (d:Int))] [moB M] (.pv (val M).1.pv) [moB (val M).2]
def ly (l:List Fld)(q:Nat):Blk:=.cells 25 true [.pv (.int .i64 9),.pv (.int .i64 0),.pv (.int .i64 0),.pv (.str []),.pv .nils,.olist q 7 (l.map Fld.pv)]
theorem Og {l:List Fld}{i:Nat}{x:Fld}(h:l[i]? = some x):(l.map Fld.pv)[i]? = some x.pv:=by rw[List.getElem?_map,h];rfl
theorem FU (hN:jw T p)(val:Mo→Val×Mo)(s:List UInt8)(d:Nat)(hd:d≤10)(hv:ln val s)(hc:CM T p val s (d+1))(l:List Fld)(hl:l.length≤65540)(M:Mo)(hM:OkM M)(hs:M.s=s) :
  aF Tryz.prog (bG T p) 2 117 [.ptr 0 0,.ptr 1 0,.pv (.int .i64 (d:Int))] [moB M,ly l 2,.tok 39 7] (.pv (.tup [])) [moB (cb val l M).2,ly (cb val l M).1 2,.tok 39 7]:=by
 have h1:=il hN M 119 hM.1
 have h2:=AO (T:=T) (p:=p) (bi M 119).2 (bi M 119).1
 have h1s:=gi hM
 have h2s:=gh (l:=l) hM
 have h3:=il hN (jL (gZ M) (bT M) l) 58 (h1s.trans (jY (t:=bT M) (l:=l) h1s.1)).1.1
 have h4:=hc (eT l M) h2s.1 (h2s.2.1.trans hs)
 have hcl:cb val l M=(Dc l (.mk (bT M).x (val (eT l M)).1),(val (eT l M)).2):=rfl
 rw[hcl]
 change aF _ _ _ _ _ _ (.pv (.str (bT M).x)) [moB (gZ M)] at h2
 change aF _ _ _ _ _ _ _ [moB (eT l M)] at h3
 change aF _ _ _ _ _ _ (.pv (tkM (bT M))) _ at h1
 change aF _ _ _ _ [_,.pv (tkM (bT M))] _ _ _ at h2
 generalize (bi M 119).2=M0 at *
 generalize (bi (jL (gZ M) (bT M) l) 58).1=t3 at *
 generalize eT l M=M3 at *
 generalize val M3=q at *
 generalize bT M=t at *
 generalize gZ M=M1 at *
 have hf:=fun r=>dC (T:=T) (p:=p) (jL M1 t r) t.p 7
 have hle0:=zO (l:=l) (nm:=t.x) (i:=0) (by omega)
 obtain⟨v,M4⟩:=q
 obtain⟨w1,w2,w3,w4,w5,w6⟩:=v
 have hbs:=sh t.x w1 w2 w3 w4 (w5.map Val.pv) (w6.map Fld.pv)
 simp only[moB,moC,tkM,Val.pv_mk] at h1 h2 h3 h4 hf ⊢
 simp only[ly] at *
 refine aF.intro LD (by simp[Sq]) ?_
 simp(disch:=try exact dI) only[Sq,push_cast,seval]
 refine ab.lentK h1 [0] rfl qsZ qsZ ?_
 refine zgZ ?_
 refine ab.lentK h2 [0] rfl qsZ qsZ ?_
 refine zgZ ?_
 have hcell:∀ q:List Fld,(q.all fun x=>x.pv.cells.length == 7)=true:=fun q=>List.all_eq_true.2 fun x _=>by rw[pE];rfl
 have hcut:=Kf (l:=l) (a:=i7 l t.x 0) rfl
 have hA1:=hcell (l.take (i7 l t.x 0))
 have hA2:=hcell (l.drop (i7 l t.x 0))
 have hl1:(l.take (i7 l t.x 0)).length=i7 l t.x 0:=by rw[List.length_take];omega
 have hl2:(l.drop (i7 l t.x 0)).length=l.length - i7 l t.x 0:=by rw[List.length_drop]
 have hins:(Dc l (Fld.mk t.x (.mk w1 w2 w3 w4 w5 w6))).map Fld.pv=(l.take (i7 l t.x 0)).map Fld.pv++[.agg [.str t.x,.int .i64 w1,.int .i64 w2,.int .i64 w3,.str w4,.list (w5.map Val.pv),.list (w6.map Fld.pv)]]++(l.drop (i7 l t.x 0)).map Fld.pv:=by
  show (l.take (i7 l t.x 0)++[_]++l.drop (i7 l t.x 0)).map Fld.pv=_
  rw[List.map_append,List.map_append,List.map_cons,List.map_nil,Fld.pv_mk,Val.pv_mk];rfl
 have hp0:=EI l t.x
 have hd0:jL M1 t (l.drop l.length)=M1:=by rw[List.drop_length];exact J6 _ _
 refine bf ([]) (fun j:Nat=>[(8,.pv (.int .i64 (i7 l t.x j:Int))),(9,.pv (.int .i64 ((j:Int) - 1)))]) (fun j=>[(0,moB (jL M1 t (l.drop j)))]) (fun j=>j≤l.length) (fun j=>j) (l.length) ?_;intro e0 σ0 n0 h0;simp(disch:=try exact dI) only[push_cast,seval] at h0;obtain⟨rfl,rfl,rfl⟩:=h0;refine⟨?_,?_,?_⟩
 ·simp(disch:=try exact dI) only[moB,moC,hp0,hd0,push_cast,seval]
 ·exact Nat.le_refl _
 rintro j hj
 cases j with
 | zero=>
   rw[show l.drop 0=l from rfl]
   simp(disch:=try exact dI) only[moB,moC,push_cast,seval]
   refine ab.lentK h3 [0] rfl qsZ qsZ ?_
   refine zgZ ?_
   refine ab.lentK h4 [0] rfl qsZ qsZ ?_
   simp(maxSteps:=9^8) (disch:=try exact dI) only[hbs,hA1,hA2,hcut,push_cast,seval]
   exact am [] (by simp(disch:=try exact dI) only[hins,push_cast,seval])
 | succ j=>
   obtain⟨x,hx⟩:∃ x,l[j]? = some x:=⟨_,List.getElem?_eq_getElem (by omega)⟩
   have hxp:=Og hx
   have hdr:=aP hx
   have e2:(j:Int)+1 - 1=(j:Int):=by omega
   have hnx:=fun h=>EH (nm:=t.x) hx h
   have hnm:=fun h=>zJ (nm:=t.x) hx h
   have hdh:=fun h1 h2=>J7 (M:=M1) (t:=t) (x:=x) (r:=l.drop (j+1)) h1 h2
   have hdm:=fun h=>F2 (M:=M1) (t:=t) (x:=x) (r:=l.drop (j+1)) h
   have hff:=hf (l.drop (j+1))
   generalize hD:jL M1 t (l.drop (j+1))=D at *
   obtain⟨nm,v0⟩:=x
   obtain⟨u1,u2,u3,u4,u5,u6⟩:=v0
   simp only[Fld.pv_mk,Val.pv_mk] at hxp
   by_cases hxn:nm=t.x
   ·have b1:decide (nm=t.x)=true:=decide_eq_true hxn
    by_cases hk:t.k=119
    ·have hkI:((t.k:Int)=119)=True:=eq_true (by omega)
     have hdj:jL M1 t (l.drop j)=aU D 7 t.p:=by rw[hdr];exact hdh hk hxn
     cases hg:gtN nm t.x with
     | true=>
       have hpj:=hnx hg
       have hg':(!(bx nm t.x||nm == t.x))=true:=hg
       simp(disch:=try exact dI) only[moB,moC,hxp,e2,b1,hkI,push_cast,seval]
       refine ab.lentK hff [0] rfl qsZ qsZ ?_
       simp(disch:=try exact dI) only[hxp,hg',push_cast,seval]
       exact⟨j,bz (by simp(disch:=try exact dI) only[moB,moC,hpj,hdj,push_cast,seval]),by omega,by omega⟩
     | false=>
       have hpj:=hnm hg
       have hg':(!(bx nm t.x||nm == t.x))=false:=hg
       simp(disch:=try exact dI) only[moB,moC,hxp,e2,b1,hkI,push_cast,seval]
       refine ab.lentK hff [0] rfl qsZ qsZ ?_
       simp(disch:=try exact dI) only[hxp,hg',push_cast,seval]
       exact⟨j,bz (by simp(disch:=try exact dI) only[moB,moC,hpj,hdj,push_cast,seval]),by omega,by omega⟩
    ·have hkI:¬ (t.k:Int)=119:=by omega
     have hdj:jL M1 t (l.drop j)=D:=by rw[hdr];exact hdm fun q=>hk q.2
     cases hg:gtN nm t.x with
     | true=>
       have hpj:=hnx hg
       have hg':(!(bx nm t.x||nm == t.x))=true:=hg
       simp(disch:=try exact dI) only[moB,moC,hxp,e2,b1,hkI,hg',push_cast,seval]
       exact⟨j,bz (by simp(disch:=try exact dI) only[moB,moC,hpj,hdj,push_cast,seval]),by omega,by omega⟩
     | false=>
       have hpj:=hnm hg
       have hg':(!(bx nm t.x||nm == t.x))=false:=hg
       simp(disch:=try exact dI) only[moB,moC,hxp,e2,b1,hkI,hg',push_cast,seval]
       exact⟨j,bz (by simp(disch:=try exact dI) only[moB,moC,hpj,hdj,push_cast,seval]),by omega,by omega⟩
   ·have b1:decide (nm=t.x)=false:=decide_eq_false hxn
    have hdj:jL M1 t (l.drop j)=D:=by rw[hdr];exact hdm fun q=>hxn q.1
    cases hg:gtN nm t.x with
    | true=>
      have hpj:=hnx hg
      have hg':(!(bx nm t.x||nm == t.x))=true:=hg
      simp(disch:=try exact dI) only[moB,moC,hxp,e2,b1,hg',push_cast,seval]
      exact⟨j,bz (by simp(disch:=try exact dI) only[moB,moC,hpj,hdj,push_cast,seval]),by omega,by omega⟩
    | false=>
      have hpj:=hnm hg
      have hg':(!(bx nm t.x||nm == t.x))=false:=hg
      simp(disch:=try exact dI) only[moB,moC,hxp,e2,b1,hg',push_cast,seval]
      exact⟨j,bz (by simp(disch:=try exact dI) only[moB,moC,hpj,hdj,push_cast,seval]),by omega,by omega⟩
end
end Go.Proofs.YtamoeblcphjbaaaGreatDoor
-- many steps
namespace Go.Proofs.YtamoeblcphjbaaaGreatDoor
open Go Go.Ab
attribute [local irreducible] vc
section
variable {T:Nat}{p:PV}
theorem Ru (M:Mo)(d:Nat)(h:¬ M.e=0):aF Tryz.prog (bG T p) 1 54 [.ptr 0 0,.pv (.int .i64 (d:Int))] [moB M] (.pv aH.pv) [moB M]:=by
 simp only[moB,moC,aH,Val.pv_mk]
 refine aF.intro fA (by simp[F54]) ?_
 simp(disch:=try exact dI) only[F54,h,push_cast,seval]
 exact am [] qsZ
theorem RP (M:Mo)(d:Nat)(h0:M.e=0)(h:pZ M.k):aF Tryz.prog (bG T p) 1 54 [.ptr 0 0,.pv (.int .i64 (d:Int))] [moB M] (.pv aH.pv) [moB (aU M 13 M.p)]:=by
 have hf:=dC (T:=T) (p:=p) M M.p 13
 have h0I:(M.e=0)=True:=eq_true h0
 obtain⟨g1,g2,g3,g4,g5,g6⟩:=h
 have i1:¬ (M.k:Int)=110:=by omega
 have i2:¬ (M.k:Int)=115:=by omega
 have i3:¬ (M.k:Int)=120:=by omega
 have i4:¬ (M.k:Int)=91:=by omega
 have i5:¬ (M.k:Int)=123:=by omega
 have i6:¬ (M.k:Int)=119:=by omega
 simp only[moB,moC,aH,Val.pv_mk] at hf ⊢
 refine aF.intro fA (by simp[F54]) ?_
 simp(disch:=try exact dI) only[F54,h0I,i1,i2,i3,i4,i5,i6,push_cast,seval]
 refine ab.lentK hf [0] rfl qsZ qsZ ?_
 refine zgZ ?_
 exact am [] qsZ
theorem Oc {k:Nat}(h:¬ pZ k):k=110∨k=115∨k=120∨k=91∨k=123∨k=119:=by
 unfold pZ at h;omega
theorem Oz (M:Mo)(h0:M.e=0)(h:¬ pZ M.k):aF Tryz.prog (bG T p) 1 54 [.ptr 0 0,.pv (.int .i64 8)] [moB M] (.pv aH.pv) [moB (aU M 23 M.p)]:=by
 have hf:=dC (T:=T) (p:=p) M M.p 23
 have h0I:(M.e=0)=True:=eq_true h0
 have hk:=Oc h
 generalize aU M 23 M.p=N at *
 obtain⟨ms,mn,mk,mp,mx,mv,me,mb⟩:=M
 simp only at hk h0I
 simp only[moB,moC,aH,Val.pv_mk] at hf ⊢
 refine aF.intro fA (by simp[F54]) ?_
 rcases hk with rfl | rfl | rfl | rfl | rfl | rfl
 all_goals
  simp only[Int.cast_ofNat_Int] at hf ⊢
  simp(disch:=try exact dI) only[F54,h0I,push_cast,seval]
  refine ab.lentK hf [0] rfl qsZ qsZ ?_
  refine zgZ ?_
  exact am [] qsZ
theorem QY (hN:jw T p)(M:Mo)(d:Nat)(hd:d≤7)(hM:OkM M)(h0:M.e=0)(hk:M.k=110):aF Tryz.prog (bG T p) 1 54 [.ptr 0 0,.pv (.int .i64 (d:Int))] [moB M] (.pv (Av M.x).pv) [moB (nextM M)]:=by
 have hn:=hN M hM.1
 have hx0:=(hM.2.2 h0).2.2.1 hk
 have hxl:=hM.2.1
 have hd8:¬ (8:Int)≤(d:Int):=by omega
 generalize nextM M=N at *
 obtain⟨ms,mn,mk,mp,mx,mv,me,mb⟩:=M
 simp only at hk h0 hx0 hxl
 subst hk
 subst h0
 have hdg:=toE (T:=T) (p:=p) (pL mx (by omega) hx0)
 have hpn:=bm (T:=T) (p:=p) (bX mx)
 unfold Av
 generalize aQ (bX mx)=r at *
 obtain⟨⟨n,sc⟩,e⟩:=r
 rcases List.eq_nil_or_concat mx with rfl | ⟨l,c,rfl⟩
 ·exact absurd rfl hx0
 rw[List.concat_eq_append] at *
 have e1:(l.length:Int)+1 - 1=(l.length:Int):=by omega
 have hg:(l++[c])[l.length]? = some c:=by simp
 have hgl:(l++[c]).getLast? = some c:=by simp
 rw[List.length_append,List.length_singleton] at hxl
 simp only[moB,moC,Int.cast_ofNat_Int] at hn hdg hpn ⊢
 rw[hgl]
 by_cases hsc:0<sc
 ·have hscI:(0:Int)<(sc:Int):=by omega
  rw[if_pos (.inl hsc),Val.pv_mk]
  refine aF.intro fA (by simp[F54]) ?_
  simp(disch:=try exact dI) only[F54,hd8,push_cast,seval]
  refine ab.lentK hn [0] rfl qsZ qsZ ?_
  refine zgZ ?_
  refine ab.pure hdg rfl ?_
  refine zgZ ?_
  refine ab.pure hpn rfl ?_
  simp(disch:=try exact dI) only[hscI,push_cast,seval]
  exact am [] qsZ
 ·have hscI:¬ (0:Int)<(sc:Int):=by omega
  by_cases hc:c=100
  ·subst hc
   have hcI:((100:UInt8).toNat:Int)=100:=rfl
   rw[if_pos (.inr rfl),Val.pv_mk]
   refine aF.intro fA (by simp[F54]) ?_
   simp(disch:=try exact dI) only[F54,hd8,push_cast,seval]
   refine ab.lentK hn [0] rfl qsZ qsZ ?_
   refine zgZ ?_
   refine ab.pure hdg rfl ?_
   refine zgZ ?_
   refine ab.pure hpn rfl ?_
   simp(disch:=try exact dI) only[hscI,List.length_append,List.length_cons,List.length_nil,e1,hg,ae,hcI,push_cast,seval]
   exact am [] qsZ
  ·have hcI:¬ (c.toNat:Int)=100:=fun h=>hc (UInt8.toNat_inj.1 (by simpa using (show c.toNat=100 by omega)))
   rw[if_neg (fun q=>q.elim hsc fun q=>hc (Option.some.inj q)),Val.pv_mk]
   refine aF.intro fA (by simp[F54]) ?_
   simp(disch:=try exact dI) only[F54,hd8,push_cast,seval]
   refine ab.lentK hn [0] rfl qsZ qsZ ?_
   refine zgZ ?_
   refine ab.pure hdg rfl ?_
   refine zgZ ?_
   refine ab.pure hpn rfl ?_
   simp(disch:=try exact dI) only[hscI,List.length_append,List.length_cons,List.length_nil,e1,hg,ae,hcI,push_cast,seval]
   exact am [] qsZ
theorem MM (hN:jw T p)(M:Mo)(d:Nat)(hd:d≤7)(hM:OkM M)(h0:M.e=0)(hk:M.k=115∨M.k=120):aF Tryz.prog (bG T p) 1 54 [.ptr 0 0,.pv (.int .i64 (d:Int))] [moB M] (.pv (Val.mk (if M.k=115 then 4 else 5) 0 0 M.v [] []).pv) [moB (nextM M)]:=by
 have hn:=hN M hM.1
 have hd8:¬ (8:Int)≤(d:Int):=by omega
 generalize nextM M=N at *
 obtain⟨ms,mn,mk,mp,mx,mv,me,mb⟩:=M
 simp only at hk h0
 subst h0
 simp only[moB,moC,Val.pv_mk] at hn ⊢
 refine aF.intro fA (by simp[F54]) ?_
 rcases hk with rfl | rfl
 all_goals
  simp only[Int.cast_ofNat_Int] at hn ⊢
  simp(disch:=try exact dI) only[F54,hd8,push_cast,seval]
  refine ab.lentK hn [0] rfl qsZ qsZ ?_
  refine zgZ ?_
  exact am [] qsZ
theorem Mq (hN:jw T p)(M:Mo)(d:Nat)(hd:d≤7)(hM:OkM M)(h0:M.e=0)(hk:M.k=119)(hw:¬ ((nextM M).e=0∧(nextM M).k=40)):aF Tryz.prog (bG T p) 1 54 [.ptr 0 0,.pv (.int .i64 (d:Int))] [moB M] (.pv (f0 (nextM M) (dd M) d).1.pv) [moB (f0 (nextM M) (dd M) d).2]:=by
 have hn:=hN M hM.1
 have hwd:=HO hN (nextM M) (dd M) d (m6 hM.1).1
 have hd8:¬ (8:Int)≤(d:Int):=by omega
 generalize hq:f0 (nextM M) (dd M) d=q at *
 generalize nextM M=N at *
 obtain⟨ms,mn,mk,mp,mx,mv,me,mb⟩:=M
 obtain⟨⟨w1,w2,w3,w4,w5,w6⟩,N2⟩:=q
 simp only at hk h0
 subst h0
 subst hk
 simp only[moB,moC,tkM,dd,Val.pv_mk,Int.cast_ofNat_Int] at hn hwd ⊢
 refine aF.intro fA (by simp[F54]) ?_
 by_cases hN0:N.e=0
 ·have hN0I:(N.e=0)=True:=eq_true hN0
  have hk40:¬ (N.k:Int)=40:=fun q=>hw ⟨hN0,by omega⟩
  simp(disch:=try exact dI) only[F54,hd8,push_cast,seval]
  refine ab.lentK hn [0] rfl qsZ qsZ ?_
  simp(disch:=try exact dI) only[hN0I,hk40,push_cast,seval]
  refine ab.lentK hwd [0] rfl qsZ qsZ ?_
  refine zgZ ?_
  exact am [] qsZ
 ·simp(disch:=try exact dI) only[F54,hd8,push_cast,seval]
  refine ab.lentK hn [0] rfl qsZ qsZ ?_
  simp(disch:=try exact dI) only[hN0,push_cast,seval]
  refine ab.lentK hwd [0] rfl qsZ qsZ ?_
  refine zgZ ?_
  exact am [] qsZ
theorem QB (hN:jw T p)(val:Mo→Val×Mo)(M:Mo)(d:Nat)(hd:d≤7)(s:List UInt8)(hv:ln val s)(hc:CM T p val s (d+1))(hs:M.s=s)(hM:OkM M)(h0:M.e=0)(hk:M.k=119)(hw:(nextM M).e=0∧(nextM M).k=40):aF Tryz.prog (bG T p) 1 54 [.ptr 0 0,.pv (.int .i64 (d:Int))] [moB M] (.pv (GG val (nextM M) (dd M)).1.pv) [moB (GG val (nextM M) (dd M)).2]:=by
 have hn:=hN M hM.1
 have hd8:¬ (8:Int)≤(d:Int):=by omega
 have s1:=be hM
 have hnm:=AO (T:=T) (p:=p) (nextM M) (dd M)
 have s2:=s1.1.trans (iu (t:=dd M) s1.1.1)
 have hn2:=hN _ s2.1.1
 have s3:=s2.trans (be s2.1).1
 have hcall:=hc _ s3.1 (s3.2.1.trans hs)
 have s4:=s3.trans (hv _ s3.1 (s3.2.1.trans hs)).1
 have htk:=il hN _ 41 s4.1.1
 unfold GG
 generalize nextM (fq (nextM M) (dd M))=N3 at *
 generalize fq (nextM M) (dd M)=N2 at *
 generalize val N3=q at *
 obtain⟨⟨w1,w2,w3,w4,w5,w6⟩,N4⟩:=q
 simp only at htk ⊢
 generalize bi N4 41=r at *
 obtain⟨t5,N5⟩:=r
 have hbs:=Gf w1 w2 w3 w4 (w5.map Val.pv) (w6.map Fld.pv)
 generalize nextM M=N at *
 obtain⟨hN0,hN40⟩:=hw
 have hN0I:(N.e=0)=True:=eq_true hN0
 have hk40:((N.k:Int)=40)=True:=eq_true (by omega)
 obtain⟨ms,mn,mk,mp,mx,mv,me,mb⟩:=M
 simp only at hk h0
 subst h0
 subst hk
 simp only[moB,moC,tkM,dd,Val.pv_mk,List.map_cons,List.map_nil,Int.cast_ofNat_Int] at hn hnm hn2 hcall htk ⊢
 refine aF.intro fA (by simp[F54]) ?_
 simp(disch:=try exact dI) only[F54,hd8,push_cast,seval]
 refine ab.lentK hn [0] rfl qsZ qsZ ?_
 simp(disch:=try exact dI) only[hN0I,hk40,push_cast,seval]
 refine ab.lentK hnm [0] rfl qsZ qsZ ?_
 refine zgZ ?_
 refine ab.lentK hn2 [0] rfl qsZ qsZ ?_
 refine zgZ ?_
 refine aT hcall [0] rfl qsZ qsZ ?_
 simp(disch:=try exact dI) only[hbs,push_cast,seval]
 refine ab.lentK htk [0] rfl qsZ qsZ ?_
 refine zgZ ?_
 exact am [] qsZ
end
end Go.Proofs.YtamoeblcphjbaaaGreatDoor
