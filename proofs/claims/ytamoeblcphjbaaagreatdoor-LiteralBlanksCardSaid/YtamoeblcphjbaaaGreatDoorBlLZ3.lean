/- A part. -/
import Derived.Test.YtamoeblcphjbaaaGreatDoorBlLS2
set_option linter.unusedVariables false
set_option linter.unusedSimpArgs false
set_option maxHeartbeats 16000000
set_option maxRecDepth 100000
namespace Go.Proofs.YtamoeblcphjbaaaGreatDoor
open Go Go.Ab
attribute [local irreducible] vc
theorem OE (i:Nat)(hi:i<10):∃ w a b c d e f g,G9[i]? = some w/\eW true 11 8 (.pv (.agg vo)) (.pv (.int .i64 ((i:Int)+1)))=some (.pv (.agg [.str w,.int .i64 a,.int .i64 b,.bool c,.bool d,.bool e,.bool f,.bool g])):=by
 have hc:i=0\/i=1\/i=2\/i=3\/i=4\/i=5\/i=6\/i=7\/i=8\/i=9:=by omega
 rcases hc with rfl | rfl | rfl | rfl | rfl | rfl | rfl | rfl | rfl | rfl
 all_goals exact⟨_,_,_,_,_,_,_,_,rfl,rfl⟩
theorem e9 (t:List UInt8):au Tryz.prog aH 120 [.str t] (.tup [.int .i64 (bt t),.int .i64 (if bt t=0 then 8 else 0)]):=by
 have hk:=vp
 generalize hZ:bt t=Z
 unfold bt at hZ
 refine au.intro Tt.2 (by simp[Tt]) ?_
 simp(disch:=try exact dI) only[Tt,push_cast,seval]
 refine aK ([]) (fun i:Nat=>[(4,.pv (.int .i64 ((i:Int)+1)))]) (fun _=>[]) (fun i=>i<=10/\CU ((i:Int)+1) (G9.drop i) t=Z) (fun i=>10 - i) (0) ?_;intro e0 σ0 n0 h0;simp(disch:=try exact dI) only[push_cast,seval] at h0;obtain⟨rfl,rfl,rfl⟩:=h0;refine⟨?_,?_,?_⟩
 ·exact qsZ
 ·exact⟨by omega,hZ⟩
 rintro i ⟨hi,he⟩
 by_cases hlt:i<10
 ·obtain⟨w,a,b,c,d,e,f,g,hw,hr⟩:=OE i hlt
  rw[aU hw,CU] at he
  have hltI:(i:Int)+1<=10:=by omega
  by_cases hwt:w=t
  ·rw[if_pos hwt] at he
   subst he
   subst hwt
   have h0:¬ (i:Int)+1=0:=by omega
   refine zgZ ?_
   refine ae.pure hk rfl ?_
   simp(disch:=try exact dI) only[hr,eq_self,h0,push_cast,seval]
  ·rw[if_neg hwt] at he
   refine zgZ ?_
   refine ae.pure hk rfl ?_
   simp(disch:=try exact dI) only[hr,hwt,push_cast,seval]
   exact⟨i+1,bu qsZ,⟨by omega,by rw[<- he];push_cast;rfl⟩,by omega⟩
 ·obtain rfl:i=10:=by omega
  have hz:Z=0:=he.symm.trans rfl
  subst hz
  exact qsZ
theorem Ql (v:Val):jk 6 1 [.pv v.pv]=some (.pv (.list [v.pv]),[]):=by
 obtain⟨w1,w2,w3,w4,w5,w6⟩:=v
 rw[Un]
 exact fS rfl rfl
def N2 (T:Nat)(p:PV)(kind:Rd->Typ×Rd)(s:List UInt8)(d:Nat):Prop:=
 ∀ R,OkR R->OkT R->R.s=s->aI Tryz.prog (bE T p) 1 56 [.ptr 0 0,.pv (.int .i64 (d:Int))] [rdB R] (.pv (kind R).1.pv) [rdB (kind R).2]
section
variable {T:Nat}{p:PV}
theorem HD (kind:Rd->Typ×Rd)(val:Rd->Val×Rd)(s:List UInt8)(d:Nat)(hd:d<=8)(hk:zm kind s)(hkc:N2 T p kind s (d+1))(hvc:Nd T p val s 0)(R:Rd)(hR:OkR R)(hT:OkT R)(hs:R.s=s) :
  aI Tryz.prog (bE T p) 1 133 [.ptr 0 0,.pv (.int .i64 (d:Int))] [rdB R] (.pv (pl kind val R).1.pv) [rdB (pl kind val R).2]:=by
 obtain⟨a,b,c,x,k,e,q,ko,_,_,_⟩:=ip hk hR hT hs
 have hA:=vv (T:=T) (p:=p) R hR
 have hB:aI Tryz.prog (bE T p) 1 166 [.ptr 0 0] [rdB (cm R).2] (.pv (.str (qT R).1)) [rdB (qT R).2]:=sN (T:=T) (p:=p) (cm R).2 a.1
 have hC:aI Tryz.prog (bE T p) 1 132 [.ptr 0 0,.pv (.str [63])] [rdB (qT R).2] (.pv (.bool (oP R).1)) [rdB (oP R).2]:=eM (T:=T) (p:=p) (qT R).2 [63] b.1
 have hX:=aJ (T:=T) (p:=p) (oP R).2 [58] c.1
 have hK:aI Tryz.prog (bE T p) 1 56 [.ptr 0 0,.pv (.int .i64 ((d+1:Nat):Int))] [rdB (aq (oP R).2 [58])] (.pv (gU kind R).1.pv) [rdB (gU kind R).2]:=hkc (aq (oP R).2 [58]) x.1 x.2.1 (x.2.2.1.trans hs)
 have hI:=yc (T:=T) (p:=p) (gU kind R).2 [61]
 have hF:=bV (T:=T) (p:=p) (gU kind R).2 (gU kind R).2.now.pos 13
 have hQ:aI Tryz.prog (bE T p) 1 132 [.ptr 0 0,.pv (.str [61])] [rdB (zx kind R)] (.pv (.bool (mG kind R).1)) [rdB (mG kind R).2]:=eM (T:=T) (p:=p) (zx kind R) [61] e.1
 have hV:=hvc (mG kind R).2 q.1 q.2.1 (q.2.2.1.trans hs)
 have eE:zx kind R=if isT (gU kind R).2 [61]=true/\(oP R).1=true then aP (gU kind R).2 (gU kind R).2.now.pos 13 else (gU kind R).2:=rfl
 obtain⟨Z,hZ⟩:∃ Z,Z=pl kind val R:=⟨_,rfl⟩
 have hZ2:pl kind val R=if (mG kind R).1=true then (.mk (cm R).1 (qT R).1 3 (gU kind R).1 [(val (mG kind R).2).1],(val (mG kind R).2).2)
  else (.mk (cm R).1 (qT R).1 (if (oP R).1=true then 2 else 1) (gU kind R).1 [],(mG kind R).2):=rfl
 rw[<- hZ]
 rw[hZ2] at hZ
 clear hZ2 hk hkc hvc a b c x k e q ko
 generalize val (mG kind R).2=V at *
 generalize mG kind R=Q at *
 generalize zx kind R=E at *
 generalize isT (gU kind R).2 [61]=i at *
 generalize aP (gU kind R).2 (gU kind R).2.now.pos 13=Fl at *
 generalize gU kind R=K at *
 generalize aq (oP R).2 [58]=X at *
 generalize oP R=C at *
 generalize qT R=B at *
 generalize cm R=A at *
 obtain⟨n,LA⟩:=A
 obtain⟨nm,LB⟩:=B
 obtain⟨cb,LC⟩:=C
 obtain⟨⟨t1,t2,t3,t4,t5,t6,t7⟩,LK⟩:=K
 obtain⟨qb,LQ⟩:=Q
 obtain⟨v,LV⟩:=V
 have hbs:=Ql v
 obtain⟨v1,v2,v3,v4,v5,v6⟩:=v
 simp only[rdB,rdC,Ul,Un] at hA hB hC hX hK hI hF hQ hV hbs eE hZ ⊢
 refine aI.intro To.2 (by simp[To]) ?_
 simp(disch:=try exact dI) only[To,push_cast,seval]
 refine ae.lentK hA [0] rfl qsZ qsZ ?_
 refine zgZ ?_
 refine ae.lentK hB [0] rfl qsZ qsZ ?_
 refine zgZ ?_
 refine ae.lentK hC [0] rfl qsZ qsZ ?_
 cases cb with
 | true=>
   refine zgZ ?_
   refine ae.lentK hX [0] rfl qsZ qsZ ?_
   refine zgZ ?_
   refine ae.lentK hK [0] rfl qsZ qsZ ?_
   refine zgZ ?_
   refine ae.lentK hI [0] rfl qsZ qsZ ?_
   cases i with
   | true=>
     rw[if_pos ⟨rfl,rfl⟩] at eE
     subst eE
     refine zgZ ?_
     refine ae.lentK hF [0] rfl qsZ qsZ ?_
     refine zgZ ?_
     refine ae.lentK hQ [0] rfl qsZ qsZ ?_
     cases qb with
     | true=>
       rw[if_pos rfl] at hZ
       subst hZ
       refine zgZ ?_
       refine ae.lentK hV [0] rfl qsZ qsZ ?_
       simp(disch:=try exact dI) only[hbs,push_cast,seval]
       exact am [] (by simp(disch:=try exact dI) only[rdB,rdC,Ue,Ul,Un,aw,push_cast,seval])
     | false=>
       rw[if_neg (by decide)] at hZ
       subst hZ
       refine zgZ ?_
       exact am [] (by simp(disch:=try exact dI) only[rdB,rdC,Ue,Ul,Un,aw,push_cast,seval])
   | false=>
     rw[if_neg (fun q=>by cases q.1)] at eE
     subst eE
     refine zgZ ?_
     refine ae.lentK hQ [0] rfl qsZ qsZ ?_
     cases qb with
     | true=>
       rw[if_pos rfl] at hZ
       subst hZ
       refine zgZ ?_
       refine ae.lentK hV [0] rfl qsZ qsZ ?_
       simp(disch:=try exact dI) only[hbs,push_cast,seval]
       exact am [] (by simp(disch:=try exact dI) only[rdB,rdC,Ue,Ul,Un,aw,push_cast,seval])
     | false=>
       rw[if_neg (by decide)] at hZ
       subst hZ
       refine zgZ ?_
       exact am [] (by simp(disch:=try exact dI) only[rdB,rdC,Ue,Ul,Un,aw,push_cast,seval])
 | false=>
   refine zgZ ?_
   refine ae.lentK hX [0] rfl qsZ qsZ ?_
   refine zgZ ?_
   refine ae.lentK hK [0] rfl qsZ qsZ ?_
   refine zgZ ?_
   refine ae.lentK hI [0] rfl qsZ qsZ ?_
   cases i with
   | true=>
     rw[if_neg (fun q=>by cases q.2)] at eE
     subst eE
     refine zgZ ?_
     refine ae.lentK hQ [0] rfl qsZ qsZ ?_
     cases qb with
     | true=>
       rw[if_pos rfl] at hZ
       subst hZ
       refine zgZ ?_
       refine ae.lentK hV [0] rfl qsZ qsZ ?_
       simp(disch:=try exact dI) only[hbs,push_cast,seval]
       exact am [] (by simp(disch:=try exact dI) only[rdB,rdC,Ue,Ul,Un,aw,push_cast,seval])
     | false=>
       rw[if_neg (by decide)] at hZ
       subst hZ
       refine zgZ ?_
       exact am [] (by simp(disch:=try exact dI) only[rdB,rdC,Ue,Ul,Un,aw,push_cast,seval])
   | false=>
     rw[if_neg (fun q=>by cases q.1)] at eE
     subst eE
     refine zgZ ?_
     refine ae.lentK hQ [0] rfl qsZ qsZ ?_
     cases qb with
     | true=>
       rw[if_pos rfl] at hZ
       subst hZ
       refine zgZ ?_
       refine ae.lentK hV [0] rfl qsZ qsZ ?_
       simp(disch:=try exact dI) only[hbs,push_cast,seval]
       exact am [] (by simp(disch:=try exact dI) only[rdB,rdC,Ue,Ul,Un,aw,push_cast,seval])
     | false=>
       rw[if_neg (by decide)] at hZ
       subst hZ
       refine zgZ ?_
       exact am [] (by simp(disch:=try exact dI) only[rdB,rdC,Ue,Ul,Un,aw,push_cast,seval])
end
section
variable {T:Nat}{p:PV}
theorem CP (R:Rd)(d:Nat)(h0:¬ R.e=0):aI Tryz.prog (bE T p) 1 56 [.ptr 0 0,.pv (.int .i64 (d:Int))] [rdB R] (.pv ce.pv) [rdB R]:=by
 simp only[rdB,rdC,ce,Ul]
 refine aI.intro Q56.2 (by simp[Q56]) ?_
 simp(disch:=try exact dI) only[Q56,h0,push_cast,seval]
 exact am [] qsZ
theorem vr (R:Rd)(d:Nat)(h0:R.e=0)(hk:¬ R.now.kind=1):aI Tryz.prog (bE T p) 1 56 [.ptr 0 0,.pv (.int .i64 (d:Int))] [rdB R] (.pv ce.pv) [rdB (aP R R.now.pos 13)]:=by
 have hf:=bV (T:=T) (p:=p) R R.now.pos 13
 have h0I:(R.e=0)=True:=eq_true h0
 simp only[rdB,rdC,ce,Ul] at hf ⊢
 refine aI.intro Q56.2 (by simp[Q56]) ?_
 simp(disch:=try exact dI) only[Q56,h0I,hk,push_cast,seval]
 refine ae.lentK hf [0] rfl qsZ qsZ ?_
 refine zgZ ?_
 exact am [] qsZ
theorem CQ (R:Rd)(h0:R.e=0)(hk:R.now.kind=1):aI Tryz.prog (bE T p) 1 56 [.ptr 0 0,.pv (.int .i64 8)] [rdB R] (.pv ce.pv) [rdB (aP R R.now.pos 23)]:=by
 have hf:=bV (T:=T) (p:=p) R R.now.pos 23
 have h0I:(R.e=0)=True:=eq_true h0
 have hkI:(R.now.kind=1)=True:=eq_true hk
 simp only[rdB,rdC,ce,Ul] at hf ⊢
 refine aI.intro Q56.2 (by simp[Q56]) ?_
 simp(disch:=try exact dI) only[Q56,h0I,hkI,push_cast,seval]
 refine ae.lentK hf [0] rfl qsZ qsZ ?_
 refine zgZ ?_
 exact am [] qsZ
theorem L8 (R:Rd)(d:Nat)(hd:d<8)(hR:OkR R)(hT:OkT R)(h0:R.e=0)(hk:R.now.kind=1)(hw:bt R.now.text=0):aI Tryz.prog (bE T p) 1 56 [.ptr 0 0,.pv (.int .i64 (d:Int))] [rdB R] (.pv ce.pv) [rdB (aP (aT R) R.now.pos 13)]:=by
 have h0I:(R.e=0)=True:=eq_true h0
 have hkI:(R.now.kind=1)=True:=eq_true hk
 have hdI:¬ (8:Int)<=(d:Int):=by omega
 have hadv:=bx (T:=T) (p:=p) R hR
 have hfind:=toE (T:=T) (p:=p) (e9 R.now.text)
 have hst:=(aQ hR hT).1
 have hf:=bV (T:=T) (p:=p) (aT R) R.now.pos 13
 rw[hw,if_pos rfl] at hfind
 clear hst hR hT
 generalize aT R=R1 at *
 simp only[rdB,rdC,tkP,ce,Ul] at hadv hf ⊢
 refine aI.intro Q56.2 (by simp[Q56]) ?_
 simp(disch:=try exact dI) only[Q56,h0I,hkI,hdI,push_cast,seval]
 refine ae.lentK hadv [0] rfl qsZ qsZ ?_
 refine zgZ ?_
 refine ae.pure hfind rfl ?_
 refine zgZ ?_
 refine ae.lentK hf [0] rfl qsZ qsZ ?_
 refine zgZ ?_
 exact am [] qsZ
theorem CS (R:Rd)(d:Nat)(hd:d<8)(hR:OkR R)(hT:OkT R)(h0:R.e=0)(hk:R.now.kind=1)(hw:bt R.now.text=1):aI Tryz.prog (bE T p) 1 56 [.ptr 0 0,.pv (.int .i64 (d:Int))] [rdB R] (.pv (Typ.mk 1 0 0 0 [] [] []).pv) [rdB (aT R)]:=by
 have h0I:(R.e=0)=True:=eq_true h0
 have hkI:(R.now.kind=1)=True:=eq_true hk
 have hdI:¬ (8:Int)<=(d:Int):=by omega
 have hadv:=bx (T:=T) (p:=p) R hR
 have hfind:=toE (T:=T) (p:=p) (e9 R.now.text)
 have hst:=(aQ hR hT).1
 rw[hw,if_neg (by decide)] at hfind
 clear hst hR hT
 generalize aT R=R1 at *
 simp only[rdB,rdC,tkP,Ul] at hadv ⊢
 refine aI.intro Q56.2 (by simp[Q56]) ?_
 simp(disch:=try exact dI) only[Q56,h0I,hkI,hdI,push_cast,seval]
 refine ae.lentK hadv [0] rfl qsZ qsZ ?_
 refine zgZ ?_
 refine ae.pure hfind rfl ?_
 refine zgZ ?_
 exact am [] qsZ
end
section
variable {T:Nat}{p:PV}
theorem G8 (R:Rd)(d:Nat)(hd:d<8)(hR:OkR R)(hT:OkT R)(h0:R.e=0)(hk:R.now.kind=1)(hw:bt R.now.text=3)(kd:Rd->Typ×Rd)(val:Rd->Val×Rd) :
  aI Tryz.prog (bE T p) 1 56 [.ptr 0 0,.pv (.int .i64 (d:Int))] [rdB R] (.pv (bX kd val 3 (aq (aT R) [40])).1.pv) [rdB (aq (bX kd val 3 (aq (aT R) [40])).2 [41])]:=by
 have h0I:(R.e=0)=True:=eq_true h0
 have hkI:(R.now.kind=1)=True:=eq_true hk
 have hdI:¬ (8:Int)<=(d:Int):=by omega
 have hadv:=bx (T:=T) (p:=p) R hR
 have hfind:=toE (T:=T) (p:=p) (e9 R.now.text)
 have hst:=(aQ hR hT).1
 rw[hw,if_neg (by decide)] at hfind
 have hop:=aJ (T:=T) (p:=p) (aT R) [40] hst.1
 have s0:=aG (t:=[40]) hst.1 hst.2.1
 clear hst hR hT
 generalize aT R=R1 at *
 generalize aq R1 [40]=R2 at *
 have hA:=vv (T:=T) (p:=p) R2 s0.1
 have sA:=(bF s0.1 s0.2.1).1
 have hX:=aJ (T:=T) (p:=p) (cm R2).2 [44] sA.1
 have s1:=aG (t:=[44]) sA.1 sA.2.1
 have e1:bX kd val 3 R2=(.mk 3 (dF (mB (cm R2).1) (aq (cm R2).2 [44])).1.1 (dF (mB (cm R2).1) (aq (cm R2).2 [44])).1.2 (cm R2).1 [] [] [],(dF (mB (cm R2).1) (aq (cm R2).2 [44])).2):=rfl
 have s2:=(cu (b:=mB (cm R2).1) (fun R h ht=>oe _ h ht) s1.1 s1.2.1).1
 rw[e1]
 clear e1
 generalize cm R2=A at *
 obtain⟨sc,LA⟩:=A
 simp only at *
 generalize aq LA [44]=R3 at *
 have hB:=Ap (T:=T) (p:=p) 124 [] [.ptr 2 0,.ptr 1 0] (mB sc) 3 0 0 sc (fun R h ht=>oe sc h ht) (fun R a b h=>Qf R 3 a b sc h) (.inl ⟨rfl,rfl⟩) R3 s1.1 s1.2.1
 generalize dF (mB sc) R3=Q at *
 obtain⟨⟨a,b⟩,L⟩:=Q
 simp only at hB s2 ⊢
 have hE:=aJ (T:=T) (p:=p) L [41] s2.1
 simp only[rdB,rdC,tkP,tyB,tyC,bxB,Ul] at hadv hop hB hE hA hX ⊢
 refine aI.intro Q56.2 (by simp[Q56]) ?_
 simp(disch:=try exact dI) only[Q56,h0I,hkI,hdI,push_cast,seval]
 refine ae.lentK hadv [0] rfl qsZ qsZ ?_
 refine zgZ ?_
 refine ae.pure hfind rfl ?_
 refine zgZ ?_
 refine ae.lentK hop [0] rfl qsZ qsZ ?_
 refine zgZ ?_
 refine ae.lentK hA [0] rfl qsZ qsZ ?_
 refine zgZ ?_
 refine ae.lentK hX [0] rfl qsZ qsZ ?_
 refine zgZ ?_
 refine ae.lentK hB [0,12,1] rfl qsZ qsZ ?_
 refine zgZ ?_
 refine ae.lentK hE [0] rfl qsZ qsZ ?_
 refine zgZ ?_
 exact am [] qsZ
theorem CR (R:Rd)(d:Nat)(hd:d<8)(hR:OkR R)(hT:OkT R)(h0:R.e=0)(hk:R.now.kind=1)(hw:bt R.now.text=6)(kd:Rd->Typ×Rd)(val:Rd->Val×Rd) :
  aI Tryz.prog (bE T p) 1 56 [.ptr 0 0,.pv (.int .i64 (d:Int))] [rdB R] (.pv (bX kd val 6 (aq (aT R) [40])).1.pv) [rdB (aq (bX kd val 6 (aq (aT R) [40])).2 [41])]:=by
 have h0I:(R.e=0)=True:=eq_true h0
 have hkI:(R.now.kind=1)=True:=eq_true hk
 have hdI:¬ (8:Int)<=(d:Int):=by omega
 have hadv:=bx (T:=T) (p:=p) R hR
 have hfind:=toE (T:=T) (p:=p) (e9 R.now.text)
 have hst:=(aQ hR hT).1
 rw[hw,if_neg (by decide)] at hfind
 have hop:=aJ (T:=T) (p:=p) (aT R) [40] hst.1
 have s0:=aG (t:=[40]) hst.1 hst.2.1
 clear hst hR hT
 generalize aT R=R1 at *
 generalize aq R1 [40]=R2 at *
 have e1:bX kd val 6 R2=(.mk 6 (dF (fun R=>aO R bz) R2).1.1 (dF (fun R=>aO R bz) R2).1.2 0 [] [] [],(dF (fun R=>aO R bz) R2).2):=rfl
 have s2:=(cu (b:=fun R=>aO R bz) (fun R h ht=>bU bz kg h ht) s0.1 s0.2.1).1
 rw[e1]
 clear e1
 have hB:=Ap (T:=T) (p:=p) 126 [] [.ptr 2 0] (fun R=>aO R bz) 6 0 0 0 (fun R h ht=>bU bz kg h ht) (fun R a b h=>Qe R 6 a b 0 h) (.inr ⟨rfl,rfl⟩) R2 s0.1 s0.2.1
 generalize dF (fun R=>aO R bz) R2=Q at *
 obtain⟨⟨a,b⟩,L⟩:=Q
 simp only at hB s2 ⊢
 have hE:=aJ (T:=T) (p:=p) L [41] s2.1
 simp only[rdB,rdC,tkP,tyB,tyC,bxB,Ul] at hadv hop hB hE ⊢
 refine aI.intro Q56.2 (by simp[Q56]) ?_
 simp(disch:=try exact dI) only[Q56,h0I,hkI,hdI,push_cast,seval]
 refine ae.lentK hadv [0] rfl qsZ qsZ ?_
 refine zgZ ?_
 refine ae.pure hfind rfl ?_
 refine zgZ ?_
 refine ae.lentK hop [0] rfl qsZ qsZ ?_
 refine zgZ ?_
 refine ae.lentK hB [0,12,1] rfl qsZ qsZ ?_
 refine zgZ ?_
 refine ae.lentK hE [0] rfl qsZ qsZ ?_
 refine zgZ ?_
 exact am [] qsZ
theorem CL (R:Rd)(d:Nat)(hd:d<8)(hR:OkR R)(hT:OkT R)(h0:R.e=0)(hk:R.now.kind=1)(hw:bt R.now.text=7)(kd:Rd->Typ×Rd)(val:Rd->Val×Rd) :
  aI Tryz.prog (bE T p) 1 56 [.ptr 0 0,.pv (.int .i64 (d:Int))] [rdB R] (.pv (bX kd val 7 (aq (aT R) [40])).1.pv) [rdB (aq (bX kd val 7 (aq (aT R) [40])).2 [41])]:=by
 have h0I:(R.e=0)=True:=eq_true h0
 have hkI:(R.now.kind=1)=True:=eq_true hk
 have hdI:¬ (8:Int)<=(d:Int):=by omega
 have hadv:=bx (T:=T) (p:=p) R hR
 have hfind:=toE (T:=T) (p:=p) (e9 R.now.text)
 have hst:=(aQ hR hT).1
 rw[hw,if_neg (by decide)] at hfind
 have hop:=aJ (T:=T) (p:=p) (aT R) [40] hst.1
 have s0:=aG (t:=[40]) hst.1 hst.2.1
 clear hst hR hT
 generalize aT R=R1 at *
 generalize aq R1 [40]=R2 at *
 have e1:bX kd val 7 R2=(.mk 7 (dF (fun R=>aO R br) R2).1.1 (dF (fun R=>aO R br) R2).1.2 0 [] [] [],(dF (fun R=>aO R br) R2).2):=rfl
 have s2:=(cu (b:=fun R=>aO R br) (fun R h ht=>bU br kf h ht) s0.1 s0.2.1).1
 rw[e1]
 clear e1
 have hB:=Ap (T:=T) (p:=p) 129 [] [.ptr 2 0] (fun R=>aO R br) 7 0 0 0 (fun R h ht=>bU br kf h ht) (fun R a b h=>Qd R 7 a b 0 h) (.inr ⟨rfl,rfl⟩) R2 s0.1 s0.2.1
 generalize dF (fun R=>aO R br) R2=Q at *
 obtain⟨⟨a,b⟩,L⟩:=Q
 simp only at hB s2 ⊢
 have hE:=aJ (T:=T) (p:=p) L [41] s2.1
 simp only[rdB,rdC,tkP,tyB,tyC,bxB,Ul] at hadv hop hB hE ⊢
 refine aI.intro Q56.2 (by simp[Q56]) ?_
 simp(disch:=try exact dI) only[Q56,h0I,hkI,hdI,push_cast,seval]
 refine ae.lentK hadv [0] rfl qsZ qsZ ?_
 refine zgZ ?_
 refine ae.pure hfind rfl ?_
 refine zgZ ?_
 refine ae.lentK hop [0] rfl qsZ qsZ ?_
 refine zgZ ?_
 refine ae.lentK hB [0,12,1] rfl qsZ qsZ ?_
 refine zgZ ?_
 refine ae.lentK hE [0] rfl qsZ qsZ ?_
 refine zgZ ?_
 exact am [] qsZ
end
