/- A part. -/
import Derived.Test.YtamoeblcphjbaaaGreatDoorTyLSh3
set_option linter.unusedVariables false
set_option linter.unusedSimpArgs false
set_option maxHeartbeats 16000000
set_option maxRecDepth 100000
open List renaming mem_append->Xk,mem_singleton->XE,length_append->WF,length_singleton->Xi,length_nil->WL,map_cons->WP,map_nil->Xp
namespace Go.Proofs.YtamoeblcphjbaaaGreatDoor
open Go Go.Ab
attribute [local irreducible] vc
def ye (val:Rd->Val×Rd)(s:List UInt8):Prop:=
 ∀ R,OkR R->OkT R->R.s=s->(val R).1.ok/\cE R (val R).2/\((val R).2.e=0->R.now.pos<(val R).2.now.pos)
def Pv (T:Nat)(p:PV)(val:Rd->Val×Rd)(s:List UInt8)(d:Nat):Prop:=
 ∀ R,OkR R->OkT R->R.s=s->aP Tryz.prog (ci T p) 1 46 [.ptr 0 0,.pv (.int .i64 (d:Int))] [rdB R] (.pv (val R).1.pv) [rdB (val R).2]
def msr (R:Rd):Nat:=if R.e=0 then R.s.length+1 - R.now.pos else 0
theorem Q4 {R:Rd}(h:OkR R)(h0:R.e=0):R.now.pos<=R.s.length:=by
 obtain⟨h1,h2,h3,h4⟩:=h h0;omega
theorem om {R R':Rd}(hR:OkR R)(h0:R.e=0)(h:cE R R')(hp:R'.e=0->R.now.pos<R'.now.pos):msr R'<msr R:=by
 unfold msr
 have:=Q4 hR h0
 by_cases h1:R'.e=0
 ·have:=hp h1
  rw[if_pos h1,if_pos h0,h.2.2.1];omega
 ·rw[if_neg h1,if_pos h0];omega
theorem lh {val:Rd->Val×Rd}{k:Nat}{first:Bool}{l:List Val}{R:Rd}(h:¬ (R.e=0/\isT R [93]=false)):fB val k first l R=(l,R):=by
 cases k with
 | zero=>rfl
 | succ k=>rw[fB];exact if_neg h
theorem lj {val:Rd->Val×Rd}{k:Nat}{first:Bool}{l:List Val}{R:Rd}(h:R.e=0/\isT R [93]=false) :
  fB val (k+1) first l R=fB val k false (l++[(val (if first=true then R else aw R [44])).1]) (val (if first=true then R else aw R [44])).2:=by
 rw[fB];exact if_pos h
theorem ou {val:Rd->Val×Rd}{s:List UInt8}(hv:ye val s){R:Rd}(b:Bool)(hR:OkR R)(hT:OkT R)(hs:R.s=s)(h0:R.e=0) :
  cE R (if b=true then R else aw R [44])/\cE R (val (if b=true then R else aw R [44])).2/\(val (if b=true then R else aw R [44])).1.ok/\msr (val (if b=true then R else aw R [44])).2<msr R:=by
 have h1:cE R (if b=true then R else aw R [44]):=by
  split
  ·exact .refl hR hT
  ·exact aO hR hT
 generalize (if b=true then R else aw R [44])=R1 at *
 obtain⟨g1,g2,g3⟩:=hv R1 h1.1 h1.2.1 (h1.2.2.1.trans hs)
 refine⟨h1,h1.trans g2,g1,om hR h0 (h1.trans g2) fun he=>?_⟩
 have:=g3 he
 have:=(h1.2.2.2 (g2.2.2.2 he).1).2
 omega
theorem wP {val:Rd->Val×Rd}{s:List UInt8}(hv:ye val s):∀ (k:Nat) (b:Bool) (l:List Val) (R:Rd),OkR R->OkT R->R.s=s->(∀ x∈l,x.ok) ->
  (∀ x∈(fB val k b l R).1,x.ok)/\cE R (fB val k b l R).2/\(fB val k b l R).1.length<=l.length+k
 | 0,b,l,R,h1,h2,h3,h4=>⟨h4,.refl h1 h2,Nat.le_refl _⟩
 | k+1,b,l,R,h1,h2,h3,h4=>by
   by_cases h:R.e=0/\isT R [93]=false
   ·rw[lj h]
    obtain⟨g1,g2,g3,g4⟩:=ou hv b h1 h2 h3 h.1
    generalize val (if b=true then R else aw R [44])=q at *
    obtain⟨k1,k2,k3⟩:=wP hv k false (l++[q.1]) q.2 g2.1 g2.2.1 (g2.2.2.1.trans h3) (fun x hx=>by
     rcases Xk.1 hx with hx | hx
     ·exact h4 x hx
     ·rw[XE.1 hx];exact g3)
    refine⟨k1,g2.trans k2,?_⟩
    rw[WF,Xi] at k3
    omega
   ·rw[lh h]
    exact⟨h4,.refl h1 h2,by simp only;omega⟩
theorem Sy (w1 w2 w3:Int)(w4:List UInt8)(w5 w6:List PV):kM 6 1 [.pv (.agg [.int .i64 w1,.int .i64 w2,.int .i64 w3,.str w4,.list w5,.list w6])]=some (.pv (.list [.agg [.int .i64 w1,.int .i64 w2,.int .i64 w3,.str w4,.list w5,.list w6]]),[]):=
 gr rfl rfl
section
variable {T:Nat}{p:PV}
theorem Ru (val:Rd->Val×Rd)(s:List UInt8)(d:Nat)(hd:d<=10)(hv:ye val s)(hc:Pv T p val s (d+1))(R:Rd)(hR:OkR R)(hT:OkT R)(hs:R.s=s)(hsl:s.length<=65536) :
  aP Tryz.prog (ci T p) 1 98 [.ptr 0 0,.pv (.int .i64 (d:Int))] [rdB R] (.pv (Val.mk 8 0 0 [] (fB val (s.length+2) true [] R).1 []).pv) [rdB (aw (fB val (s.length+2) true [] R).2 [93])]:=by
 obtain⟨Z,hZ⟩:∃ Z,Z=fB val (s.length+2) true [] R:=⟨_,rfl⟩
 rw[<- hZ]
 refine aP.intro Q98.2 (by simp[Q98]) ?_
 simp(disch:=try exact dI) only[Q98,push_cast,seval]
 refine aG ([(5,5,25,6)]) (fun y:Bool×List Val×Rd=>[(6,.pv (.bool y.1))]) (fun y=>[(0,rdB y.2.2),(2,.cells 25 true [.pv (.int .i64 8),.pv (.int .i64 0),.pv (.int .i64 0),.pv (.str []),.olist 3 6 (y.2.1.map Val.pv),.pv .nils])]) (fun y=>OkR y.2.2/\OkT y.2.2/\y.2.2.s=s/\y.2.1.length+msr y.2.2<=s.length+1/\∃ k,msr y.2.2<k/\Z=fB val k y.1 y.2.1 y.2.2) (fun y=>msr y.2.2) ((true,[],R)) ?_;intro e0 σ0 n0 h0;simp(disch:=try exact dI) only[push_cast,seval] at h0;obtain⟨rfl,rfl,rfl⟩:=h0;refine⟨?_,?_,?_⟩
 ·simp(disch:=try exact dI) only[rdB,rdC,push_cast,seval]
 ·refine⟨hR,hT,hs,?_,s.length+2,?_,hZ⟩
  ·simp only[WL,msr,hs];split<;>omega
  ·simp only[msr,hs];split<;>omega
 rintro⟨b,l,L⟩ ⟨h1,h2,h3,h4,k,hk,hZk⟩
 simp only at h1 h2 h3 h4 hk hZk
 obtain⟨k,rfl⟩:∃ j,k=j+1:=⟨k - 1,by omega⟩
 have hex:=aU (T:=T) (p:=p) L [93] h1
 have fin:¬ (L.e=0/\isT L [93]=false)->Z=(l,L):=fun h=>hZk.trans (lh h)
 by_cases h0:L.e=0
 ·have h0I:(L.e=0)=True:=eq_true h0
  have his:=Am (T:=T) (p:=p) L [93]
  cases hi:isT L [93] with
  | true=>
    rw[hi] at his
    have hZf:=fin (fun q=>by rw[hi] at q;cases q.2)
    subst hZf
    simp only[rdB,rdC] at his hex
    simp(disch:=try exact dI) only[rdB,rdC,h0I,push_cast,seval]
    refine ae.lentK his [0] rfl qsZ qsZ ?_
    refine zgZ ?_
    refine ae.lentK hex [0] rfl qsZ qsZ ?_
    refine zgZ ?_
    exact au [] (by simp(disch:=try exact dI) only[rdB,rdC,WD,push_cast,seval])
  | false=>
    rw[hi] at his
    rw[lj ⟨h0,hi⟩] at hZk
    obtain⟨g1,g2,g3,g4⟩:=ou hv b h1 h2 h3 h0
    have hcall:=hc (if b=true then L else aw L [44]) g1.1 g1.2.1 (g1.2.2.1.trans h3)
    have hco:=aU (T:=T) (p:=p) L [44] h1
    cases b with
    | true=>
      rw[if_pos rfl] at hcall hZk g1 g2 g3 g4
      generalize val L=q at *
      obtain⟨v,L2⟩:=q
      simp only at hcall hZk g2 g3 g4
      have hl:l.length<=65540:=by omega
      have hmp:(l++[v]).map Val.pv=l.map Val.pv++[v.pv]:=by simp
      obtain⟨w1,w2,w3,w4,w5,w6⟩:=v
      have hbs:=Sy w1 w2 w3 w4 (w5.map Val.pv) (w6.map Fld.pv)
      simp only[rdB,rdC,WD] at his hcall
      simp(disch:=try exact dI) only[rdB,rdC,h0I,push_cast,seval]
      refine ae.lentK his [0] rfl qsZ qsZ ?_
      refine zgZ ?_
      refine cp hcall [0] rfl qsZ qsZ ?_
      simp(disch:=try exact dI) only[hbs,push_cast,seval]
      exact⟨(false,l++[.mk w1 w2 w3 w4 w5 w6],L2),bl (by simp(disch:=try exact dI) only[rdB,rdC,hmp,WD,push_cast,seval]),⟨g2.1,g2.2.1,g2.2.2.1.trans h3,by simp only[WF,Xi];omega,k,by simp only;omega,hZk⟩,by simp only;omega⟩
    | false=>
      rw[if_neg (by decide)] at hcall hZk g1 g2 g3 g4
      generalize aw L [44]=L1 at *
      generalize val L1=q at *
      obtain⟨v,L2⟩:=q
      simp only at hcall hZk g2 g3 g4
      have hl:l.length<=65540:=by omega
      have hmp:(l++[v]).map Val.pv=l.map Val.pv++[v.pv]:=by simp
      obtain⟨w1,w2,w3,w4,w5,w6⟩:=v
      have hbs:=Sy w1 w2 w3 w4 (w5.map Val.pv) (w6.map Fld.pv)
      simp only[rdB,rdC,WD] at his hcall hco
      simp(disch:=try exact dI) only[rdB,rdC,h0I,push_cast,seval]
      refine ae.lentK his [0] rfl qsZ qsZ ?_
      refine zgZ ?_
      refine ae.lentK hco [0] rfl qsZ qsZ ?_
      refine zgZ ?_
      refine cp hcall [0] rfl qsZ qsZ ?_
      simp(disch:=try exact dI) only[hbs,push_cast,seval]
      exact⟨(false,l++[.mk w1 w2 w3 w4 w5 w6],L2),bl (by simp(disch:=try exact dI) only[rdB,rdC,hmp,WD,push_cast,seval]),⟨g2.1,g2.2.1,g2.2.2.1.trans h3,by simp only[WF,Xi];omega,k,by simp only;omega,hZk⟩,by simp only;omega⟩
 ·have hZf:=fin (fun q=>h0 q.1)
  subst hZf
  simp only[rdB,rdC] at hex
  simp(disch:=try exact dI) only[rdB,rdC,h0,push_cast,seval]
  refine ae.lentK hex [0] rfl qsZ qsZ ?_
  refine zgZ ?_
  exact au [] (by simp(disch:=try exact dI) only[rdB,rdC,WD,push_cast,seval])
end
theorem pj {val:Rd->Val×Rd}{k:Nat}{first:Bool}{seen:List (List UInt8)}{l:List Fld}{R:Rd}(h:¬ (R.e=0/\isT R [125]=false)):pl val k first seen l R=(l,R):=by
 cases k with
 | zero=>rfl
 | succ k=>rw[pl];exact if_neg h
def tE (b:Bool)(R:Rd):List UInt8×Rd:=fX (if b=true then R else aw R [44])
def nY (seen:List (List UInt8))(b:Bool)(R:Rd):Rd:=
 if (tE b R).2.e=0/\(tE b R).1∈seen then ba (tE b R).2 (if b=true then R else aw R [44]).now.pos 7 else (tE b R).2
theorem pk {val:Rd->Val×Rd}{k:Nat}{b:Bool}{seen:List (List UInt8)}{l:List Fld}{R:Rd}(h:R.e=0/\isT R [125]=false) :
  pl val (k+1) b seen l R=pl val k false (Km seen (tE b R).1) (l++[.mk (tE b R).1 (val (aw (nY seen b R) [58])).1]) (val (aw (nY seen b R) [58])).2:=by
 rw[pl];exact if_pos h
theorem qV {val:Rd->Val×Rd}{s:List UInt8}(hv:ye val s){R:Rd}(b:Bool)(seen:List (List UInt8))(hR:OkR R)(hT:OkT R)(hs:R.s=s)(h0:R.e=0) :
  cE R (if b=true then R else aw R [44])/\cE R (tE b R).2/\(tE b R).1.length<=65536/\cE R (nY seen b R)/\cE R (aw (nY seen b R) [58]) /\
   cE R (val (aw (nY seen b R) [58])).2/\(val (aw (nY seen b R) [58])).1.ok/\msr (val (aw (nY seen b R) [58])).2<msr R:=by
 have h1:cE R (if b=true then R else aw R [44]):=by
  split
  ·exact .refl hR hT
  ·exact aO hR hT
 have h2:=qL h1.1 h1.2.1
 have h3:cE R (tE b R).2:=h1.trans h2.1
 have h4:cE R (nY seen b R):=by
  unfold nY
  split
  ·exact h3.trans (br (by decide))
  ·exact h3
 have h5:cE R (aw (nY seen b R) [58]):=h4.trans (aO h4.1 h4.2.1)
 refine⟨h1,h3,h2.2,h4,h5,?_⟩
 generalize aw (nY seen b R) [58]=R1 at *
 obtain⟨g1,g2,g3⟩:=hv R1 h5.1 h5.2.1 (h5.2.2.1.trans hs)
 refine⟨h5.trans g2,g1,om hR h0 (h5.trans g2) fun he=>?_⟩
 have:=g3 he
 have:=(h5.2.2.2 (g2.2.2.2 he).1).2
 omega
theorem CF {val:Rd->Val×Rd}{s:List UInt8}(hv:ye val s):∀ (k:Nat) (b:Bool) (seen:List (List UInt8)) (l:List Fld) (R:Rd),OkR R->OkT R->R.s=s->(∀ x∈l,x.ok) ->
  (∀ x∈(pl val k b seen l R).1,x.ok)/\cE R (pl val k b seen l R).2/\(pl val k b seen l R).1.length<=l.length+k
 | 0,b,seen,l,R,h1,h2,h3,h4=>⟨h4,.refl h1 h2,Nat.le_refl _⟩
 | k+1,b,seen,l,R,h1,h2,h3,h4=>by
   by_cases h:R.e=0/\isT R [125]=false
   ·rw[pk h]
    obtain⟨_,_,g0,_,_,g2,g3,g4⟩:=qV hv b seen h1 h2 h3 h.1
    generalize val (aw (nY seen b R) [58])=q at *
    obtain⟨k1,k2,k3⟩:=CF hv k false (Km seen (tE b R).1) (l++[.mk (tE b R).1 q.1]) q.2 g2.1 g2.2.1 (g2.2.2.1.trans h3) (fun x hx=>by
     rcases Xk.1 hx with hx | hx
     ·exact h4 x hx
     ·rw[XE.1 hx,Wp];exact⟨by omega,g3⟩)
    refine⟨k1,g2.trans k2,?_⟩
    rw[WF,Xi] at k3
    omega
   ·rw[pj h]
    exact⟨h4,.refl h1 h2,by simp only;omega⟩
theorem UV (nm:List UInt8)(w1 w2 w3:Int)(w4:List UInt8)(w5 w6:List PV):kM 7 1 [.pv (.agg [.str nm,.int .i64 w1,.int .i64 w2,.int .i64 w3,.str w4,.list w5,.list w6])]=some (.pv (.list [.agg [.str nm,.int .i64 w1,.int .i64 w2,.int .i64 w3,.str w4,.list w5,.list w6]]),[]):=
 gr rfl rfl
theorem OB (x:Fld):∃ cs,x.pv = .agg cs/\cs.length=7/\∀ q∈cs,q.one=true:=by
 obtain⟨nm,⟨k,n,s,t,l,fs⟩⟩:=x
 refine⟨_,by rw[Wq,WD],rfl,fun q hq=>?_⟩
 simp only[PV.cells,List.cons_append,List.nil_append,List.mem_cons,List.not_mem_nil,or_false] at hq
 rcases hq with rfl | rfl | rfl | rfl | rfl | rfl | rfl<;>rfl
theorem UY (l:List Fld)(hl:l.length<=65540)(nm:List UInt8)(w1 w2 w3:Int)(w4:List UInt8)(w5:List Val)(w6:List Fld)(new q:Nat) :
  vj 39 7 104 new q 7 0 l.length [.agg [.str nm,.int .i64 w1,.int .i64 w2,.int .i64 w3,.str w4,.list (w5.map Val.pv),.list (w6.map Fld.pv)]] (.cells 39 false (bQ (l.map Fld.pv))) =
   some (.row new 7 0 (l.length+1),[(q,.none),(new,.cells 39 false (bQ ((l++[Fld.mk nm (.mk w1 w2 w3 w4 w5 w6)]).map Fld.pv)))]):=by
 rw[lD (by rw[dR];exact Nat.le_refl _) (by simp;omega) (by simp;omega),List.take_of_length_le (by rw[dR];exact Nat.le_refl _)]
 have e:bQ ((l++[Fld.mk nm (.mk w1 w2 w3 w4 w5 w6)]).map Fld.pv)=bQ (l.map Fld.pv)++bQ [.agg [.str nm,.int .i64 w1,.int .i64 w2,.int .i64 w3,.str w4,.list (w5.map Val.pv),.list (w6.map Fld.pv)]]:=by
  simp only[bQ,List.map_append,List.flatMap_append,WP,Xp]
  rw[Wq,WD];rfl
 rw[e];rfl
section
variable {T:Nat}{p:PV}
theorem T2 (val:Rd->Val×Rd)(s:List UInt8)(d:Nat)(hd:d<=10)(hv:ye val s)(hc:Pv T p val s (d+1))(R:Rd)(hR:OkR R)(hT:OkT R)(hs:R.s=s)(hsl:s.length<=65536) :
  aP Tryz.prog (ci T p) 1 99 [.ptr 0 0,.pv (.int .i64 (d:Int))] [rdB R] (.pv (Val.mk 9 0 0 [] [] (srt (pl val (s.length+2) true [] [] R).1)).pv) [rdB (aw (pl val (s.length+2) true [] [] R).2 [125])]:=by
 obtain⟨Z,hZ⟩:∃ Z,Z=pl val (s.length+2) true [] [] R:=⟨_,rfl⟩
 rw[<- hZ]
 refine aP.intro Q99.2 (by simp[Q99]) ?_
 simp(disch:=try exact dI) only[Q99,push_cast,seval]
 refine aG ([(5,6,1000039,7)]) (fun y:Bool×List (List UInt8)×List Fld×Rd=>[(7,.pv (.bool y.1))]) (fun y=>[(0,rdB y.2.2.2),(2,.cells 25 true [.pv (.int .i64 9),.pv (.int .i64 0),.pv (.int .i64 0),.pv (.str []),.pv .nils,.row 4 7 0 y.2.2.1.length]),(3,.mp (mpS y.2.1)),(4,.cells 39 false (bQ (y.2.2.1.map Fld.pv)))]) (fun y=>OkR y.2.2.2/\OkT y.2.2.2/\y.2.2.2.s=s/\y.2.2.1.length+msr y.2.2.2<=s.length+1/\∃ k,msr y.2.2.2<k/\Z=pl val k y.1 y.2.1 y.2.2.1 y.2.2.2) (fun y=>msr y.2.2.2) ((true,[],[],R)) ?_;intro e0 σ0 n0 h0;simp(disch:=try exact dI) only[push_cast,seval] at h0;obtain⟨rfl,rfl,rfl⟩:=h0;refine⟨?_,?_,?_⟩
 ·simp(disch:=try exact dI) only[rdB,rdC,mpS,bQ,List.flatMap_nil,push_cast,seval]
 ·refine⟨hR,hT,hs,?_,s.length+2,?_,hZ⟩
  ·simp only[WL,msr,hs];split<;>omega
  ·simp only[msr,hs];split<;>omega
 rintro⟨b,seen,l,L⟩ ⟨h1,h2,h3,h4,k,hk,hZk⟩
 simp only at h1 h2 h3 h4 hk hZk
 obtain⟨k,rfl⟩:∃ j,k=j+1:=⟨k - 1,by omega⟩
 have hex:=aU (T:=T) (p:=p) L [125] h1
 have hl:l.length<=65540:=by omega
 have hsort:=MJ (G:=ci T p) l (by omega)
 have hsl2:=jM l
 have fin:¬ (L.e=0/\isT L [125]=false)->Z=(l,L):=fun h=>hZk.trans (pj h)
 have hfz:=fun (n r:Nat) (hn:n=(srt l).length)=>xz (sz:=7) (f:=Fld.pv) OB (by omega) (srt l) (n:=n) (r:=r) (T:=39) (b:=false) hn
 by_cases h0:L.e=0
 ·have h0I:(L.e=0)=True:=eq_true h0
  have his:=Am (T:=T) (p:=p) L [125]
  cases hi:isT L [125] with
  | true=>
    rw[hi] at his
    have hZf:=fin (fun q=>by rw[hi] at q;cases q.2)
    subst hZf
    simp only[rdB,rdC] at his hex
    simp(disch:=try exact dI) only[rdB,rdC,h0I,push_cast,seval]
    refine ae.lentK his [0] rfl qsZ qsZ ?_
    refine zgZ ?_
    refine ae.lentK hex [0] rfl qsZ qsZ ?_
    refine zgZ ?_
    refine ae.lentK hsort [4] rfl qsZ qsZ ?_
    simp(disch:=try exact dI) only[hfz,push_cast,seval]
    exact au [] (by simp(disch:=try exact dI) only[rdB,rdC,WD,push_cast,seval])
  | false=>
    rw[hi] at his
    rw[pk ⟨h0,hi⟩] at hZk
    obtain⟨g1,gn,gnl,gd,g5,g2,g3,g4⟩:=qV hv b seen h1 h2 h3 h0
    have hcall:=hc (aw (nY seen b L) [58]) g5.1 g5.2.1 (g5.2.2.1.trans h3)
    have hco:=aU (T:=T) (p:=p) L [44] h1
    obtain⟨L1,hL1⟩:∃ L1,L1=(if b=true then L else aw L [44]):=⟨_,rfl⟩
    have hnm:=DJ (T:=T) (p:=p) L1 (by rw[hL1];exact g1.1)
    have e0:tE b L=fX L1:=by rw[hL1];rfl
    have hrd:nY seen b L=(if (fX L1).2.e=0/\(fX L1).1∈seen then ba (fX L1).2 L1.now.pos 7 else (fX L1).2):=by unfold nY;rw[e0,<- hL1]
    rw[e0] at gn gnl hZk
    have h58:=aU (T:=T) (p:=p) (nY seen b L) [58] gd.1
    generalize aw (nY seen b L) [58]=L4 at *
    rw[hrd] at h58
    clear hrd e0 g1 gd g5
    generalize val L4=q at *
    obtain⟨v,L5⟩:=q
    generalize fX L1=Q at *
    obtain⟨nm,L2⟩:=Q
    simp only at hnm gn gnl hZk h58 hcall g2 g3 g4
    have hf:=cD (T:=T) (p:=p) L2 L1.now.pos 7
    obtain⟨w1,w2,w3,w4,w5,w6⟩:=v
    have hbs:=UV nm w1 w2 w3 w4 (w5.map Val.pv) (w6.map Fld.pv)
    have hap:=UY l hl nm w1 w2 w3 w4 w5 w6
    simp only[rdB,rdC,WD] at his hcall
    simp(disch:=try exact dI) only[rdB,rdC,h0I,push_cast,seval]
    refine ae.lentK his [0] rfl qsZ qsZ ?_
    cases b
    case' true=>
     rw[if_pos rfl] at hL1
     subst hL1
     simp only[rdB,rdC] at hnm hf
     refine zgZ ?_
     skip
    case' false=>
     rw[if_neg (by decide)] at hL1
     rw[<- hL1] at hco
     clear hL1
     simp only[rdB,rdC] at hnm hf hco
     refine zgZ ?_
     refine ae.lentK hco [0] rfl qsZ qsZ ?_
     refine zgZ ?_
     skip
    all_goals
     refine ae.lentK hnm [0] rfl qsZ qsZ ?_
     by_cases h20:L2.e=0
     case' neg=>
      rw[if_neg (fun q=>h20 q.1)] at h58
      have hmI:(L2.e=0)=False:=eq_false h20
      simp(disch:=try exact dI) only[hmI,push_cast,seval]
     case' pos=>
      have h20I:(L2.e=0)=True:=eq_true h20
      by_cases hmem:nm∈seen
      case' pos=>
       rw[if_pos ⟨h20,hmem⟩] at h58
       have hmI:decide (nm∈seen)=true:=decide_eq_true hmem
       simp(disch:=try exact dI) only[h20I,hmI,push_cast,seval]
       refine ae.lentK hf [0] rfl qsZ qsZ ?_
       refine zgZ ?_
       skip
      case' neg=>
       rw[if_neg (fun q=>hmem q.2)] at h58
       have hmI:decide (nm∈seen)=false:=decide_eq_false hmem
       simp(disch:=try exact dI) only[h20I,hmI,push_cast,seval]
     all_goals
      simp only[rdB,rdC] at h58
      refine ae.lentK h58 [0] rfl qsZ qsZ ?_
      refine zgZ ?_
      refine cp hcall [0] rfl qsZ qsZ ?_
      simp(disch:=try exact dI) only[hbs,hap,push_cast,seval]
      exact⟨(false,Km seen nm,l++[.mk nm (.mk w1 w2 w3 w4 w5 w6)],L5),bl (by simp(disch:=try exact dI) only[rdB,rdC,WF,push_cast,seval]),⟨g2.1,g2.2.1,g2.2.2.1.trans h3,by simp only[WF,Xi];omega,k,by simp only;omega,hZk⟩,by simp only;omega⟩
 ·have hZf:=fin (fun q=>h0 q.1)
  subst hZf
  simp only[rdB,rdC] at hex
  simp(disch:=try exact dI) only[rdB,rdC,h0,push_cast,seval]
  refine ae.lentK hex [0] rfl qsZ qsZ ?_
  refine zgZ ?_
  refine ae.lentK hsort [4] rfl qsZ qsZ ?_
  simp(disch:=try exact dI) only[hfz,push_cast,seval]
  exact au [] (by simp(disch:=try exact dI) only[rdB,rdC,WD,push_cast,seval])
end
theorem Da (s:List UInt8):-1000000000000000000<=(bU s).1/\(bU s).1<=1000000000000000000:=by
 unfold bU
 split
 ·rename_i y m d hn
  rcases LN y m d with h | h
  ·have:=oL h;omega
  ·unfold nB at h ⊢
   split
   ·rename_i hh;rw[if_pos hh] at h;cases h
   ·simp
 ·simp
theorem pw (s:List UInt8):I64 (bU s).1:=by
 have:=Da s
 unfold I64;omega
theorem pu (s:List UInt8):I64 (bG s).1:=by
 by_cases h:(bG s).2=0
 ·obtain⟨y,m,d,hh,mi,sec,ms,h1,h2,h3,h4,h5,h6,h7⟩:=tX (s:=s) (n:=(bG s).1) (by rw[<- h])
  have:=gI h1
  unfold I64;omega
 ·have:(bG s).1=0:=by
   unfold bG at h ⊢
   split
   ·rename_i y m d hh mi sec r hn
    rw[hn] at h
    simp only at h
    split
    ·rename_i ms hms
     rw[hms] at h
     simp only at h
     unfold yE at h ⊢
     split
     ·rfl
     ·rename_i hc
      rw[if_neg hc] at h
      exact absurd rfl h
    ·rfl
   ·rfl
  rw[this];exact bD
theorem fx {k n s:Int}{t:List UInt8}(hk:I64 k)(hn:I64 n)(hs:I64 s)(ht:t.length<=300000):(Val.mk k n s t [] []).ok:=by
 rw[WC]
 exact⟨hk,hn,hs,by omega,by simp,(fun x hx=>by cases hx),by simp,fun x hx=>by cases hx⟩
theorem d9 {n:Int}(h:0<=n)(h2:n<=1000):I64 n:=by unfold I64;omega
theorem ff:b9.ok:=fx bD bD bD (by simp)
theorem Rl {val:Rd->Val×Rd}{s:List UInt8}(hv:ye val s){R:Rd}{t:Tk}{d:Nat}(hR:OkR R)(hT:OkT R)(hs:R.s=s)(ht:t.text.length<=65536) :
  (dc val R t d).1.ok/\cE R (dc val R t d).2:=by
 unfold dc
 split
 ·split
  ·split
   ·exact⟨ff,br (by decide)⟩
   ·have h1:=(bq hR hT).1
    obtain⟨g1,g2,g3⟩:=hv (bi R) h1.1 h1.2.1 (h1.2.2.1.trans hs)
    refine⟨?_,h1.trans (g2.trans (aO g2.1 g2.2.1))⟩
    rw[WC]
    refine⟨d9 (by omega) (by omega),bD,bD,by omega,by simp,fun x hx=>?_,by simp,fun x hx=>by cases hx⟩
    rw[XE.1 hx];exact g1
  split
  ·exact⟨fx (d9 (by omega) (by omega)) (d9 (by omega) (by omega)) bD (by simp),.refl hR hT⟩
  split
  ·exact⟨fx (d9 (by omega) (by omega)) bD bD (by simp),.refl hR hT⟩
  split
  ·have h1:=df bU pw hR hT
   exact⟨fx (d9 (by omega) (by omega)) h1.2 bD (by simp),h1.1⟩
  split
  ·have h1:=df bG pu hR hT
   exact⟨fx (d9 (by omega) (by omega)) h1.2 bD (by simp),h1.1⟩
  split
  ·exact⟨ff,.refl hR hT⟩
  ·exact⟨ff,br (by decide)⟩
 ·exact⟨ff,.refl hR hT⟩
section
variable {T:Nat}{p:PV}
theorem DH {val:Rd->Val×Rd}{R:Rd}{t:Tk}{d:Nat}(h0:R.e=0)(hi:isT R [40]=true)(hn:bz t.text=true):dc val R t d=(.mk 10 0 0 t.text [(val (bi R)).1] [],aw (val (bi R)).2 [41]):=by
 unfold dc
 rw[if_pos h0,if_pos hi,if_neg (by rw[hn];decide)]
theorem NU {val:Rd->Val×Rd}{R:Rd}{t:Tk}{d:Nat}(h0:R.e=0)(hi:isT R [40]=true)(hn:bz t.text=false):dc val R t d=(b9,ba R t.pos 12):=by
 unfold dc
 rw[if_pos h0,if_pos hi,if_pos hn]
theorem mA {val:Rd->Val×Rd}{R:Rd}{t:Tk}{d:Nat}(h0:R.e=0)(hi:isT R [40]=false):dc val R t d =
  if t.text=[116,114,117,101] then (.mk 1 1 0 [] [] [],R)
  else if t.text=[102,97,108,115,101] then (.mk 1 0 0 [] [] [],R)
  else if t.text=[100,97,116,101] then (.mk 6 (aR R bU).1 0 [] [] [],(aR R bU).2)
  else if t.text=[116,105,109,101] then (.mk 7 (aR R bG).1 0 [] [] [],(aR R bG).2)
  else if t.text=[110,117,108,108]/\d=0 then (b9,R)
  else (b9,ba R t.pos 13):=by
 unfold dc
 rw[if_pos h0,if_neg (by rw[hi];decide)]
theorem NT {val:Rd->Val×Rd}{R:Rd}{t:Tk}{d:Nat}(h0:¬ R.e=0):dc val R t d=(b9,R):=by
 unfold dc
 rw[if_neg h0]
theorem IU (val:Rd->Val×Rd)(s:List UInt8)(d:Nat)(hd:d<=10)(hv:ye val s)(hc:Pv T p val s (d+1))(R:Rd)(t:Tk)(hR:OkR R)(hT:OkT R)(hs:R.s=s)(ht:t.text.length<=65536) :
  aP Tryz.prog (ci T p) 1 100 [.ptr 0 0,.pv (tkP t),.pv (.int .i64 (d:Int))] [rdB R] (.pv (dc val R t d).1.pv) [rdB (dc val R t d).2]:=by
 by_cases h0:R.e=0
 ·have h0I:(R.e=0)=True:=eq_true h0
  have his:=Am (T:=T) (p:=p) R [40]
  have hnm:=toE (T:=T) (p:=p) (mB t.text)
  cases hi:isT R [40] with
  | true=>
    rw[hi] at his
    cases hn:bz t.text with
    | true=>
      rw[hn] at hnm
      rw[DH h0 hi hn]
      have h1:=(bq hR hT).1
      obtain⟨g1,g2,g3⟩:=hv (bi R) h1.1 h1.2.1 (h1.2.2.1.trans hs)
      have hadv:=bL (T:=T) (p:=p) R hR
      have hcall:=hc (bi R) h1.1 h1.2.1 (h1.2.2.1.trans hs)
      generalize bi R=L1 at *
      generalize val L1=q at *
      obtain⟨v,L2⟩:=q
      simp only at g1 g2 hcall ⊢
      have hex:=aU (T:=T) (p:=p) L2 [41] g2.1
      have hvr:=toE (T:=T) (p:=p) (yz t.text v (by omega) g1)
      obtain⟨w1,w2,w3,w4,w5,w6⟩:=v
      simp only[rdB,rdC,tkP,WD,WP,Xp] at his hadv hcall hex hvr ⊢
      refine aP.intro iO.2 (by simp[iO]) ?_
      simp(disch:=try exact dI) only[iO,h0I,push_cast,seval]
      refine ae.lentK his [0] rfl qsZ qsZ ?_
      refine zgZ ?_
      refine ae.pure hnm rfl ?_
      refine zgZ ?_
      refine ae.lentK hadv [0] rfl qsZ qsZ ?_
      refine zgZ ?_
      refine ae.lentK hcall [0] rfl qsZ qsZ ?_
      refine zgZ ?_
      refine ae.lentK hex [0] rfl qsZ qsZ ?_
      refine zgZ ?_
      refine ae.pure hvr rfl ?_
      refine zgZ ?_
      exact au [] qsZ
    | false=>
      rw[hn] at hnm
      rw[NU h0 hi hn]
      have hf:=cD (T:=T) (p:=p) R t.pos 12
      simp only[rdB,rdC,tkP,b9,WD] at his hf ⊢
      refine aP.intro iO.2 (by simp[iO]) ?_
      simp(disch:=try exact dI) only[iO,h0I,push_cast,seval]
      refine ae.lentK his [0] rfl qsZ qsZ ?_
      refine zgZ ?_
      refine ae.pure hnm rfl ?_
      refine zgZ ?_
      refine ae.lentK hf [0] rfl qsZ qsZ ?_
      refine zgZ ?_
      exact au [] qsZ
  | false=>
    rw[hi] at his
    rw[mA h0 hi]
    by_cases t1:t.text=[116,114,117,101]
    ·have b1:decide (t.text=[116,114,117,101])=true:=decide_eq_true t1
     rw[if_pos t1]
     have hb:=toE (T:=T) (p:=p) (F0 true)
     simp only[rdB,rdC,tkP,WD,if_true] at his hb ⊢
     refine aP.intro iO.2 (by simp[iO]) ?_
     simp(disch:=try exact dI) only[iO,h0I,push_cast,seval]
     refine ae.lentK his [0] rfl qsZ qsZ ?_
     simp(disch:=try exact dI) only[b1,push_cast,seval]
     refine ae.pure hb rfl ?_
     refine zgZ ?_
     exact au [] qsZ
    have b1:decide (t.text=[116,114,117,101])=false:=decide_eq_false t1
    rw[if_neg t1]
    by_cases t2:t.text=[102,97,108,115,101]
    ·have b2:decide (t.text=[102,97,108,115,101])=true:=decide_eq_true t2
     rw[if_pos t2]
     have hb:=toE (T:=T) (p:=p) (F0 false)
     rw[if_neg (by decide)] at hb
     simp only[rdB,rdC,tkP,WD] at his hb ⊢
     refine aP.intro iO.2 (by simp[iO]) ?_
     simp(disch:=try exact dI) only[iO,h0I,push_cast,seval]
     refine ae.lentK his [0] rfl qsZ qsZ ?_
     simp(disch:=try exact dI) only[b1,b2,push_cast,seval]
     refine ae.pure hb rfl ?_
     refine zgZ ?_
     exact au [] qsZ
    have b2:decide (t.text=[102,97,108,115,101])=false:=decide_eq_false t2
    rw[if_neg t2]
    by_cases t3:t.text=[100,97,116,101]
    ·have b3:decide (t.text=[100,97,116,101])=true:=decide_eq_true t3
     rw[if_pos t3]
     have hm:=ji (T:=T) (p:=p) R hR 128 bU Db
     generalize aR R bU=q at *
     obtain⟨n,L⟩:=q
     have hb:=toE (T:=T) (p:=p) (OY n)
     simp only[rdB,rdC,tkP,WD] at his hb hm ⊢
     refine aP.intro iO.2 (by simp[iO]) ?_
     simp(disch:=try exact dI) only[iO,h0I,push_cast,seval]
     refine ae.lentK his [0] rfl qsZ qsZ ?_
     simp(disch:=try exact dI) only[b1,b2,b3,push_cast,seval]
     refine ae.lentK hm [0] rfl qsZ qsZ ?_
     refine zgZ ?_
     refine ae.pure hb rfl ?_
     refine zgZ ?_
     exact au [] qsZ
    have b3:decide (t.text=[100,97,116,101])=false:=decide_eq_false t3
    rw[if_neg t3]
    by_cases t4:t.text=[116,105,109,101]
    ·have b4:decide (t.text=[116,105,109,101])=true:=decide_eq_true t4
     rw[if_pos t4]
     have hm:=ji (T:=T) (p:=p) R hR 130 bG mq
     generalize aR R bG=q at *
     obtain⟨n,L⟩:=q
     have hb:=toE (T:=T) (p:=p) (MB n)
     simp only[rdB,rdC,tkP,WD] at his hb hm ⊢
     refine aP.intro iO.2 (by simp[iO]) ?_
     simp(disch:=try exact dI) only[iO,h0I,push_cast,seval]
     refine ae.lentK his [0] rfl qsZ qsZ ?_
     simp(disch:=try exact dI) only[b1,b2,b3,b4,push_cast,seval]
     refine ae.lentK hm [0] rfl qsZ qsZ ?_
     refine zgZ ?_
     refine ae.pure hb rfl ?_
     refine zgZ ?_
     exact au [] qsZ
    have b4:decide (t.text=[116,105,109,101])=false:=decide_eq_false t4
    rw[if_neg t4]
    have hf:=cD (T:=T) (p:=p) R t.pos 13
    by_cases t5:t.text=[110,117,108,108]
    ·have b5:decide (t.text=[110,117,108,108])=true:=decide_eq_true t5
     by_cases hd0:d=0
     ·subst hd0
      rw[if_pos ⟨t5,rfl⟩]
      simp only[rdB,rdC,tkP,b9,WD] at his hf ⊢
      refine aP.intro iO.2 (by simp[iO]) ?_
      simp(disch:=try exact dI) only[iO,h0I,push_cast,seval]
      refine ae.lentK his [0] rfl qsZ qsZ ?_
      simp(disch:=try exact dI) only[b1,b2,b3,b4,b5,push_cast,seval]
      exact au [] qsZ
     ·have hdI:¬ (d:Int)=0:=by omega
      rw[if_neg (fun q=>hd0 q.2)]
      simp only[rdB,rdC,tkP,b9,WD] at his hf ⊢
      refine aP.intro iO.2 (by simp[iO]) ?_
      simp(disch:=try exact dI) only[iO,h0I,push_cast,seval]
      refine ae.lentK his [0] rfl qsZ qsZ ?_
      simp(disch:=try exact dI) only[b1,b2,b3,b4,b5,hdI,push_cast,seval]
      refine ae.lentK hf [0] rfl qsZ qsZ ?_
      refine zgZ ?_
      exact au [] qsZ
    ·have b5:decide (t.text=[110,117,108,108])=false:=decide_eq_false t5
     rw[if_neg (fun q=>t5 q.1)]
     simp only[rdB,rdC,tkP,b9,WD] at his hf ⊢
     refine aP.intro iO.2 (by simp[iO]) ?_
     simp(disch:=try exact dI) only[iO,h0I,push_cast,seval]
     refine ae.lentK his [0] rfl qsZ qsZ ?_
     simp(disch:=try exact dI) only[b1,b2,b3,b4,b5,push_cast,seval]
     refine ae.lentK hf [0] rfl qsZ qsZ ?_
     refine zgZ ?_
     exact au [] qsZ
 ·rw[NT h0]
  simp only[rdB,rdC,tkP,b9,WD]
  refine aP.intro iO.2 (by simp[iO]) ?_
  simp(disch:=try exact dI) only[iO,h0,push_cast,seval]
  exact au [] qsZ
end
