/- A part of the proof. -/
import Derived.Test.YtamoeblcphjbaaaGreatDoorPaLE10
set_option maxRecDepth 100000
set_option linter.unusedVariables false
set_option linter.unusedSimpArgs false
namespace Go.Proofs.YtamoeblcphjbaaaGreatDoor
open Go Go.Ab
def Qn (vM:Mo→Val×Mo)(vR:Rd→Val×Rd)(s:List UInt8):Prop:=
 ∀ M R,OkM M→OkR R→OkT R→R.s=s→Sim M R→Sim (vM M).2 (vR R).2∧((vR R).2.e=0→(vM M).1=(vR R).1)
def Sz (vR:Rd→Val×Rd):Prop:=∀ R,¬ R.e=0→(vR R).2=R
def O9 (vR:Rd→Val×Rd):Prop:=∀ R,R.e=0→¬ cn R.now→(vR R).2=aI R R.now.pos 13
theorem NZ {M:Mo}{R:Rd}{c:UInt8}(hc:lq c=true)(h:Sim M R)(h0:R.e=0)(hT:OkT R)(hi:isT R [c]=true):R.now.kind=5∧R.now.text=[c]:=by
 obtain⟨_,_,d⟩:=j2 h h0
 have ht:=pC hc h0 (hT h0).2.2.2.2 d
 rw[hi] at ht
 have hk:M.k=c.toNat:=of_decide_eq_true ht.symm
 obtain⟨n0,n46,n110,n115,n119,n120,nl⟩:=oj hc
 obtain⟨_,h⟩:=d
 rcases h with ⟨a,b⟩ | ⟨a,b,_⟩ | ⟨a,b,_⟩ | ⟨a,b,_⟩ | ⟨a,b,_⟩ | ⟨a,h⟩
 ·exact absurd (hk.symm.trans b) n0
 ·exact absurd (hk.symm.trans b) n119
 ·exact absurd (hk.symm.trans b) n110
 ·exact absurd (hk.symm.trans b) n115
 ·exact absurd (hk.symm.trans b) n120
 ·rcases h with ⟨b,_⟩ | ⟨x,hx,b,t⟩
  ·exact absurd (hk.symm.trans b) n46
  ·have:x=c:=UInt8.toNat_inj.1 (b.symm.trans hk)
   subst this
   exact⟨a,t⟩
theorem tM {R:Rd}{c:UInt8}(h:R.now.kind=5∧R.now.text=[c])(h1:c≠91)(h2:c≠123):¬ cn R.now:=by
 rintro (q | q | q | q | q | q)
 ·rw[h.1] at q;cases q
 ·rw[h.1] at q;cases q
 ·rw[h.1] at q;cases q
 ·rw[h.1] at q;cases q
 ·rw[h.2] at q;exact h1 (List.cons.inj q).1
 ·rw[h.2] at q;exact h2 (List.cons.inj q).1
def iLM (val:Mo→Val×Mo)(l:List Val)(M:Mo):List Val×Mo:=(l++[(val M).1],(val M).2)
def iLR (val:Rd→Val×Rd)(l:List Val)(R:Rd):List Val×Rd:=(l++[(val R).1],(val R).2)
theorem mj (val:Mo→Val×Mo):∀ (k:Nat) (l:List Val) (M:Mo),eZ val k l M=jq (iLM val) 93 k l M
 | 0,l,M=>rfl
 | k+1,l,M=>by
   rw[eZ,jq]
   simp only[iLM]
   rw[mj val k]
   rfl
theorem ml (val:Rd→Val×Rd):∀ (k:Nat) (b:Bool) (l:List Val) (R:Rd),cJ val k b l R=eY (iLR val) 93 k b l R
 | 0,b,l,R=>rfl
 | k+1,b,l,R=>by
   rw[cJ,eY]
   simp only[iLR]
   rw[ml val k]
theorem Bj {vM:Mo→Val×Mo}{vR:Rd→Val×Rd}{s:List UInt8}(hV:Qn vM vR s)(hE:Sz vR)(hS:O9 vR)(hM:ln vM s)(hR:xB vR s):Item (iLM vM) (iLR vR) (· = ·) 93 s where
 sim:=by
  intro a b M R g1 g2 g3 g4 g5 g6 g7
  obtain⟨k1,k2⟩:=hV M R g1 g2 g3 g4 g5
  refine⟨k1,fun h=>?_⟩
  show a++[_]=b++[_]
  rw[g7,k2 h]
 err:=fun b R h=>hE R h
 shut:=fun b M R g1 g2 g3 g4 g5=>hS R g4 (tM (NZ (by decide) g1 g4 g3 g5) (by decide) (by decide))
 stM:=fun a M g1 g2=>(hM M g1 g2).1
 stR:=fun b R g1 g2 g3 _=>⟨(hR R g1 g2 g3).2.1,(hR R g1 g2 g3).2.2⟩
def iRR (val:Rd→Val×Rd)(q:List (List UInt8)×List Fld)(R:Rd):(List (List UInt8)×List Fld)×Rd:=
 ((sn q.1 (bg R).1,q.2++[.mk (bg R).1 (val (aq (dJ q.1 true R) [58])).1]),(val (aq (dJ q.1 true R) [58])).2)
theorem oB (val:Mo→Val×Mo):∀ (k:Nat) (l:List Fld) (M:Mo),nX val k l M=jq (cb val) 125 k l M
 | 0,l,M=>rfl
 | k+1,l,M=>by
   rw[nX,jq,oB val k]
theorem oC (val:Rd→Val×Rd):∀ (k:Nat) (b:Bool) (seen:List (List UInt8)) (l:List Fld) (R:Rd),iZ val k b seen l R=((eY (iRR val) 125 k b (seen,l) R).1.2,(eY (iRR val) 125 k b (seen,l) R).2)
 | 0,b,seen,l,R=>rfl
 | k+1,b,seen,l,R=>by
   by_cases h:R.e=0∧isT R [125]=false
   ·rw[mV h,eY,if_pos h,oC val k]
    rfl
   ·rw[mU h,dN h]
def SK (l:List Fld)(q:List (List UInt8)×List Fld):Prop:=l.Perm q.2∧(l.Pairwise fun a b=>Lib.compareBytes a.name b.name<0)∧∀ nm,nm∈q.1↔∃ x∈l,x.name=nm
theorem Fh {l:List (List UInt8)}{s t:List UInt8}:t∈sn l s↔t∈l∨t=s:=by
 unfold sn
 split
 ·rename_i h
  exact⟨.inl,fun q=>q.elim id fun q=>q▸h⟩
 ·rw[List.mem_append,List.mem_singleton]
theorem za {seen:List (List UInt8)}{R:Rd}(h:¬ (bg R).2.e=0):dJ seen true R=(bg R).2:=by
 unfold dJ qr
 rw[if_pos rfl,if_neg (fun q=>h q.1)]
theorem Nq {seen:List (List UInt8)}{R:Rd}(h:(bg R).2.e=0):dJ seen true R=if (bg R).1∈seen then aI (bg R).2 R.now.pos 7 else (bg R).2:=by
 unfold dJ qr
 rw[if_pos rfl]
 by_cases hm:(bg R).1∈seen
 ·rw[if_pos ⟨h,hm⟩,if_pos hm]
 ·rw[if_neg (fun q=>hm q.2),if_neg hm]
theorem Fx {vM:Mo→Val×Mo}{vR:Rd→Val×Rd}{s:List UInt8}(hV:Qn vM vR s)(hE:Sz vR)(hM:ln vM s)(hR:xB vR s):Item (cb vM) (iRR vR) SK 125 s where
 sim:=by
  intro a b M R g1 g2 g3 g4 g5 g6 g7
  obtain⟨hp,hw,hm⟩:=g7
  obtain⟨k1,k2⟩:=D0 g2 g5
  have hst:=gi g1
  obtain⟨_,hRn,_,hRd,hRe,_⟩:=fj hR true b.1 g2 g3 g4 g6
  have hMs:M.s=s:=g5.1.trans g4
  have hd:Sim (jL (gZ M) (bT M) a) (dJ b.1 true R)∧((dJ b.1 true R).e=0→(bT M).x=(bg R).1∧¬ ∃ x∈a,x.name=(bT M).x):=by
   by_cases h0:(bg R).2.e=0
   ·obtain⟨n1,n2,n3⟩:=k2 h0
    rw[Nq h0]
    unfold jL
    by_cases hs:(bg R).1∈b.1
    ·rw[if_pos hs,if_pos ⟨n2,by rw[n1];exact (hm _).1 hs⟩,n3]
     exact⟨bR (by decide) k1,fun q=>absurd q (aZ (by decide))⟩
    ·have hno:¬ ∃ x∈a,x.name=(bT M).x:=fun q=>hs ((hm _).2 (by rw[← n1];exact q))
     rw[if_neg hs,if_neg (fun q=>hno q.2)]
     exact⟨k1,fun _=>⟨n1,hno⟩⟩
   ·rw[za h0]
    exact⟨(Fw _ _ _).sim k1 h0 rfl,fun q=>absurd q h0⟩
  obtain⟨d1,d2⟩:=hd
  have hsd:=hst.trans (jY (t:=bT M) (l:=a) hst.1)
  have hx:=fH (c:=58) (k:=58) rfl (by decide) hRd.1 hRd.2.1 d1
  change Sim (eT a M) _ at hx
  have hs2:=gh (l:=a) g1
  obtain⟨v1,v2⟩:=hV _ _ hs2.1 hRe.1 hRe.2.1 (hRe.2.2.1.trans g4) hx
  refine⟨v1,fun he=>?_⟩
  have he1:=(hR _ hRe.1 hRe.2.1 (hRe.2.2.1.trans g4)).2.1.2.2.2 he
  have he2:=((bN (t:=[58]) hRd.1 hRd.2.1).2.2.2 he1.1).1
  obtain⟨q1,q2⟩:=d2 he2
  have hval:=v2 he
  show SK (Dc a (.mk (bT M).x (vM (eT a M)).1)) (sn b.1 (bg R).1,b.2++[.mk (bg R).1 (vR (aq (dJ b.1 true R) [58])).1])
  rw[hval,q1]
  rw[q1] at q2
  have hpi:=Bp a (.mk (bg R).1 (vR (aq (dJ b.1 true R) [58])).1)
  refine⟨?_,JG hw fun y hy q=>q2 ⟨y,hy,q⟩,fun nm=>?_⟩
  ·exact hpi.trans ((hp.cons _).trans (List.perm_append_singleton _ _).symm)
  ·rw[Fh,hm nm]
   constructor
   ·rintro (⟨x,hx,hn⟩ | rfl)
    ·exact⟨x,hpi.mem_iff.2 (List.mem_cons_of_mem _ hx),hn⟩
    ·exact⟨_,hpi.mem_iff.2 (List.mem_cons_self ..),rfl⟩
   ·rintro⟨x,hx,hn⟩
    rcases List.mem_cons.1 (hpi.mem_iff.1 hx) with rfl | hx
    ·exact .inr hn.symm
    ·exact .inl ⟨x,hx,hn⟩
 err:=by
  intro b R h
  have h1:(bg R).2=R:=G9 h
  have h2:dJ b.1 true R=R:=by rw[za (by rw[h1];exact h),h1]
  show (vR (aq (dJ b.1 true R) [58])).2=R
  rw[h2,cy h,hE R h]
 shut:=by
  intro b M R g1 g2 g3 g4 g5
  have h5:=NZ (by decide) g1 g4 g3 g5
  have hfe:¬ (aI R R.now.pos 13).e=0:=aZ (by decide)
  have h1:(bg R).2=aI R R.now.pos 13:=by
   unfold bg
   simp only
   rw[take_2 g4 (by rw[h5.1];decide),if_neg (fun q=>hfe q.1)]
  have h2:dJ b.1 true R=aI R R.now.pos 13:=by rw[za (by rw[h1];exact hfe),h1]
  show (vR (aq (dJ b.1 true R) [58])).2=_
  rw[h2,cy hfe,hE _ hfe]
 stM:=fun a M g1 g2=>(kQ hM g1 g2).1
 stR:=by
  intro b R g1 g2 g3 g0
  obtain⟨_,_,_,_,hRe,hst,_,_⟩:=fj hR true b.1 g1 g2 g3 g0
  refine⟨hst,fun he=>?_⟩
  obtain⟨w1,w2,w3⟩:=hR _ hRe.1 hRe.2.1 (hRe.2.2.1.trans g3)
  have:=w3 he
  have:=(hRe.2.2.2 (w2.2.2.2 he).1).2
  show R.now.pos<(vR (aq (dJ b.1 true R) [58])).2.now.pos
  omega
theorem FH {M:Mo}{R:Rd}(h:C8 M R)(hk0:R.now.kind=0→R.now.text=[]):cn R.now↔¬ pZ M.k:=by
 obtain⟨_,h⟩:=h
 unfold cn pZ
 rcases h with ⟨a,b⟩ | ⟨a,b,_⟩ | ⟨a,b,_⟩ | ⟨a,b,_⟩ | ⟨a,b,_⟩ | ⟨a,h⟩
 ·rw[a,b,hk0 a];decide
 ·rw[a,b];simp
 ·rw[a,b];simp
 ·rw[a,b];simp
 ·rw[a,b];simp
 ·rcases h with ⟨b,t⟩ | ⟨c,hc,b,t⟩
  ·rw[a,b,t];decide
  ·obtain⟨n0,n46,n110,n115,n119,n120,nl⟩:=oj hc
   rw[a,b,t]
   constructor
   ·rintro (q | q | q | q | q | q)
    ·cases q
    ·cases q
    ·cases q
    ·cases q
    ·rw[(List.cons.inj q).1];decide
    ·rw[(List.cons.inj q).1];decide
   ·intro q
    by_cases h1:c.toNat=91
    ·rw[UInt8.toNat_inj.1 (show c.toNat=(91:UInt8).toNat from h1)];decide
    by_cases h2:c.toNat=123
    ·rw[UInt8.toNat_inj.1 (show c.toNat=(123:UInt8).toNat from h2)];decide
    exact absurd ⟨n110,n115,n120,h1,h2,n119⟩ q
theorem DZ {M:Mo}{R:Rd}{t:Tm}{u:Tk}{d:Nat}{vR:Rd→Val×Rd}(hx:t.x=u.text)(hp:t.p=u.pos)(hR:OkR R)(h:Sim M R)(h0:R.e=0)(hi:isT R [40]=false) :
  Sim (f0 M t d).2 (bu vR R u d).2∧((bu vR R u d).2.e=0→(f0 M t d).1=(bu vR R u d).1):=by
 rw[AK h0 hi]
 unfold f0
 rw[hx,hp]
 by_cases t1:u.text=[116,114,117,101]
 ·rw[if_pos t1,if_pos t1];exact⟨h,fun _=>rfl⟩
 rw[if_neg t1,if_neg t1]
 by_cases t2:u.text=[102,97,108,115,101]
 ·rw[if_pos t2,if_pos t2];exact⟨h,fun _=>rfl⟩
 rw[if_neg t2,if_neg t2]
 by_cases t3:u.text=[100,97,116,101]
 ·rw[if_neg (fun q=>by rw[t3] at q;exact absurd q.1 (by decide)),if_pos t3,if_pos t3]
  obtain⟨g1,g2⟩:=lR b9 hR h
  exact⟨g1,fun q=>by rw[g2 q]⟩
 rw[if_neg t3]
 by_cases t4:u.text=[116,105,109,101]
 ·rw[if_neg (fun q=>by rw[t4] at q;exact absurd q.1 (by decide)),if_neg t3,if_pos t4,if_pos t4]
  obtain⟨g1,g2⟩:=lR bI hR h
  exact⟨g1,fun q=>by rw[g2 q]⟩
 simp only[t3,t4,↓reduceIte]
 by_cases t5:u.text=[110,117,108,108]∧d=0
 ·rw[if_pos t5,if_pos t5];exact⟨h,fun _=>rfl⟩
 ·rw[if_neg t5,if_neg t5]
  exact⟨bR (by decide) h,fun q=>absurd q (aZ (by decide))⟩
theorem Du {val:Mo→Val×Mo}{d:Nat}{M:Mo}(h:M.k=110):qy val d M=(Av M.x,nextM M):=if_pos h
theorem Dt {val:Mo→Val×Mo}{d:Nat}{M:Mo}(h:M.k=115):qy val d M=(.mk 4 0 0 M.v [] [],nextM M):=by
 unfold qy;rw[if_neg (by omega),if_pos h]
theorem Dq {val:Mo→Val×Mo}{d:Nat}{M:Mo}(h:M.k=120):qy val d M=(.mk 5 0 0 M.v [] [],nextM M):=by
 unfold qy;rw[if_neg (by omega),if_neg (by omega),if_pos h]
theorem HU {val:Mo→Val×Mo}{d:Nat}{M:Mo}(h:M.k=91):qy val d M=(.mk 8 0 0 [] (eZ val (M.s.length+2) [] (nextM M)).1 [],(bi (eZ val (M.s.length+2) [] (nextM M)).2 93).2):=by
 unfold qy;rw[if_neg (by omega),if_neg (by omega),if_neg (by omega),if_pos h]
theorem Dp {val:Mo→Val×Mo}{d:Nat}{M:Mo}(h:M.k=123):qy val d M=(.mk 9 0 0 [] [] (nX val (M.s.length+2) [] (nextM M)).1,(bi (nX val (M.s.length+2) [] (nextM M)).2 125).2):=by
 unfold qy;rw[if_neg (by omega),if_neg (by omega),if_neg (by omega),if_neg (by omega),if_pos h]
theorem Dr {val:Mo→Val×Mo}{d:Nat}{M:Mo}(h:M.k=119):qy val d M=if (nextM M).e=0∧(nextM M).k=40 then GG val (nextM M) (dd M) else f0 (nextM M) (dd M) d:=by
 unfold qy;rw[if_neg (by omega),if_neg (by omega),if_neg (by omega),if_neg (by omega),if_neg (by omega)]
section
variable {so:List Fld→List Fld}{f d:Nat}{R:Rd}
theorem MA (h:R.now.kind=2)(hd:R.now.dec=true):bc so f d R=(.mk 3 R.now.num R.now.sc [] [] [],aY R):=if_pos ⟨h,hd⟩
theorem MD (h:R.now.kind=2)(hd:R.now.dec=false):bc so f d R=(.mk 2 R.now.num 0 [] [] [],aY R):=by
 unfold bc;rw[if_neg (fun q=>by rw[hd] at q;cases q.2),if_pos h]
theorem MC (h:R.now.kind=3):bc so f d R=(.mk 4 0 0 R.now.bytes [] [],aY R):=by
 unfold bc;rw[if_neg (fun q=>by rw[h] at q;cases q.1),if_neg (fun q=>by rw[h] at q;cases q),if_pos h]
theorem MB (h:R.now.kind=4):bc so f d R=(.mk 5 0 0 R.now.bytes [] [],aY R):=by
 unfold bc;rw[if_neg (fun q=>by rw[h] at q;cases q.1),if_neg (fun q=>by rw[h] at q;cases q),if_neg (fun q=>by rw[h] at q;cases q),if_pos h]
theorem Mz (h:R.now.kind=5)(ht:R.now.text=[91]):bc so f d R=(.mk 8 0 0 [] (cJ (aG so f (d+1)) (R.s.length+2) true [] (aY R)).1 [],aq (cJ (aG so f (d+1)) (R.s.length+2) true [] (aY R)).2 [93]):=by
 unfold bc;rw[if_neg (fun q=>by rw[h] at q;cases q.1),if_neg (fun q=>by rw[h] at q;cases q),if_neg (fun q=>by rw[h] at q;cases q),if_neg (fun q=>by rw[h] at q;cases q),if_pos ht]
theorem My (h:R.now.kind=5)(ht:R.now.text=[123]):bc so f d R=(.mk 9 0 0 [] [] (so (iZ (aG so f (d+1)) (R.s.length+2) true [] [] (aY R)).1),aq (iZ (aG so f (d+1)) (R.s.length+2) true [] [] (aY R)).2 [125]):=by
 unfold bc;rw[if_neg (fun q=>by rw[h] at q;cases q.1),if_neg (fun q=>by rw[h] at q;cases q),if_neg (fun q=>by rw[h] at q;cases q),if_neg (fun q=>by rw[h] at q;cases q),if_neg (by rw[ht];decide),if_pos ht]
theorem Mx (h:R.now.kind=1)(h1:¬ R.now.text=[91])(h2:¬ R.now.text=[123]):bc so f d R=bu (aG so f (d+1)) (aY R) R.now d:=by
 unfold bc;rw[if_neg (fun q=>by rw[h] at q;cases q.1),if_neg (fun q=>by rw[h] at q;cases q),if_neg (fun q=>by rw[h] at q;cases q),if_neg (fun q=>by rw[h] at q;cases q),if_neg h1,if_neg h2]
end
theorem Ib {M:Mo}{R:Rd}{t:Tm}{u:Tk}{d:Nat}{vM:Mo→Val×Mo}{vR:Rd→Val×Rd}{s:List UInt8}(hV:Qn vM vR s)(hK:∀ N,n7 N (vM N).2)(hvS:xB vR s)(hvM:ln vM s)(hk:t.k=119)(hx:t.x=u.text)(hp:t.p=u.pos)(hM:OkM M)(hR:OkR R)(hT:OkT R)(hs:R.s=s)(h:Sim M R)(h0:R.e=0)(hi:isT R [40]=true) :
  Sim (GG vM M t).2 (bu vR R u d).2∧((bu vR R u d).2.e=0→(GG vM M t).1=(bu vR R u d).1):=by
 unfold GG
 have hkp:n7 (fq M t) (bi (vM (nextM (fq M t))).2 41).2:=(pA _).trans ((hK _).trans (cQ _ _))
 cases hb:bC u.text with
 | false=>
   rw[AL h0 hi hb]
   have e:fq M t=aU M 12 t.p:=if_pos ⟨hk,by rw[hx];exact hb⟩
   rw[e] at hkp ⊢
   have hf:=bR (e:=12) (i:=t.p) (by decide) h
   rw[hp] at hf hkp ⊢
   have hfe:¬ (aI R u.pos 12).e=0:=aZ (by decide)
   exact⟨hkp.sim hf hfe rfl,fun q=>absurd q hfe⟩
 | true=>
   rw[AM h0 hi hb]
   have e:fq M t=M:=if_neg (fun q=>by rw[hx,hb] at q;cases q.2)
   rw[e]
   have hn:=fG hR h
   have sM:=(be hM).1
   have sR:=(df hR hT).1
   have sRs:(aY R).s=s:=sR.2.2.1.trans hs
   obtain⟨v1,v2⟩:=hV _ _ sM.1 sR.1 sR.2.1 sRs hn
   have w:=hvS _ sR.1 sR.2.1 sRs
   refine⟨fH (c:=41) (k:=41) rfl (by decide) w.2.1.1 w.2.1.2.1 v1,fun q=>?_⟩
   have he:(vR (aY R)).2.e=0:=((bN (t:=[41]) w.2.1.1 w.2.1.2.1).2.2.2 q).1
   rw[v2 he,hx]
theorem wC:∀ (f d:Nat) (N:Mo),n7 N (dt f d N).2:=fun f d N q=>by rw[sP q];exact⟨rfl,rfl,rfl⟩
theorem ou (s:List UInt8)(hsl:s.length≤65536):∀ f d,Qn (dt f d) (aG srt f d) s
 | f,d=>by
   intro M R hM hR hT hs h
   refine Classical.byCases (p:=¬ R.e=0) (fun h0=>?_) fun h0=>?_
   ·rw[oc h0,sP (fun q=>h0 ((gH h).1 q))]
    exact⟨h,fun q=>absurd q h0⟩
   have h0:R.e=0:=Classical.not_not.1 h0
   obtain⟨a,b,t⟩:=j2 h h0
   have hgi:=FH t (hT h0).2.2.2.2
   have hMs:M.s=s:=h.1.trans hs
   by_cases hb:pZ M.k
   ·have hg:¬ cn R.now:=fun q=>hgi.1 q hb
    rw[f8 h0 hg,mM a hb,t.1]
    exact⟨bR (by decide) h,fun q=>absurd q (aZ (by decide))⟩
   have hg:cn R.now:=hgi.2 hb
   cases f with
   | zero=>
     rw[dc h0 hg,jU a hb,t.1]
     exact⟨bR (by decide) h,fun q=>absurd q (aZ (by decide))⟩
   | succ f=>
     rw[eO h0 hg,qx a hb]
     have ih:=ou s hsl f (d+1)
     have hE:Sz (aG srt f (d+1)):=fun R q=>by rw[oc q]
     have hS:O9 (aG srt f (d+1)):=fun R q1 q2=>by rw[f8 q1 q2]
     have hvM:=gD s f (d+1)
     have hvR:=ob s hsl f (d+1)
     have hn:=fG hR h
     have sM:=(be hM).1
     have sR:=(df hR hT).1
     have sRs:(aY R).s=s:=sR.2.2.1.trans hs
     obtain⟨tp,t⟩:=t
     have tt:C8 M R:=⟨tp,t⟩
     rcases t with ⟨c1,c2⟩ | ⟨c1,c2,c3,c4⟩ | ⟨c1,c2,c3,c4,c5⟩ | ⟨c1,c2,c3⟩ | ⟨c1,c2,c3⟩ | ⟨c1,c2⟩
     ·exact absurd (show pZ M.k by rw[c2];decide) hb
     ·-- a word
      obtain⟨l1,l2,l3,l4⟩:=c4
      rw[Dr c2,Mx c1 (fun q=>by rw[l3] at q;rw[(List.cons.inj q).1] at l4;exact absurd l4 (by decide)) (fun q=>by rw[l3] at q;rw[(List.cons.inj q).1] at l4;exact absurd l4 (by decide))]
      by_cases h1:(aY R).e=0
      ·obtain⟨x1,x2,x3⟩:=j2 hn h1
       have ti:=pC (c:=40) (by decide) h1 (sR.2.1 h1).2.2.2.2 x3
       by_cases hk:(nextM M).k=40
       ·rw[if_pos ⟨x1,hk⟩]
        exact Ib ih (wC f (d+1)) hvR hvM (t:=dd M) (u:=R.now) c2 c3 tp sM.1 sR.1 sR.2.1 sRs hn h1 (by rw[ti];exact decide_eq_true hk)
       ·rw[if_neg (fun q=>hk q.2)]
        exact DZ (t:=dd M) (u:=R.now) c3 tp sR.1 hn h1 (by rw[ti];exact decide_eq_false hk)
      ·rw[if_neg (fun q=>h1 ((gH hn).1 q.1)),AJ h1]
       exact⟨(Be _ _ _).sim hn h1 rfl,fun q=>absurd q h1⟩
     ·-- a number
      rw[Du c2]
      unfold Av
      rw[c3]
      simp only
      by_cases hsc:0<R.now.sc∨M.x.getLast? = some 100
      ·rw[if_pos hsc,MA c1 (by rw[c4];rcases hsc with q | q<;>simp[q])]
       exact⟨hn,fun _=>rfl⟩
      ·have g1:¬ 0<R.now.sc:=fun q=>hsc (.inl q)
       have g2:¬ M.x.getLast? = some 100:=fun q=>hsc (.inr q)
       rw[if_neg hsc,MD c1 (by rw[c4,decide_eq_false g1,decide_eq_false g2];rfl)]
       exact⟨hn,fun _=>rfl⟩
     ·rw[Dt c2,MC c1,c3]
      exact⟨hn,fun _=>rfl⟩
     ·rw[Dq c2,MB c1,c3]
      exact⟨hn,fun _=>rfl⟩
     ·rcases c2 with ⟨c2,_⟩ | ⟨c,hc,c2,c3⟩
      ·exact absurd (show pZ M.k by rw[c2];decide) hb
      by_cases h1:c=91
      ·subst h1
       rw[HU c2,Mz c1 c3,hMs,hs,mj,ml]
       obtain⟨k1,k2⟩:=tV (c:=93) (by decide) (by decide) (Bj ih hE hS hvM hvR) [] [] (nextM M) (aY R) sM.1 sR.1 sR.2.1 sRs hn rfl
       refine⟨k1,fun q=>?_⟩
       have:=k2 q
       simp only at this ⊢
       rw[← this]
       rfl
      by_cases h2:c=123
      ·subst h2
       rw[Dp c2,My c1 c3,hMs,hs,oB,oC]
       obtain⟨k1,k2⟩:=tV (c:=125) (by decide) (by decide) (Fx ih hE hvM hvR) [] ([],[]) (nextM M) (aY R) sM.1 sR.1 sR.2.1 sRs hn ⟨.refl _,.nil,fun nm=>by simp⟩
       refine⟨k1,fun q=>?_⟩
       obtain⟨r1,r2,_⟩:=k2 q
       simp only at r1 r2 ⊢
       rw[MQ r2 r1]
       rfl
      exact absurd hg (tM ⟨c1,c3⟩ h1 h2)
def Off (R R':Rd):Prop:=R'.e=0→R.e=0∧R'.off=R.off
theorem Off.refl (R:Rd):Off R R:=fun h=>⟨h,rfl⟩
theorem Off.trans {a b c:Rd}(h:Off a b)(k:Off b c):Off a c:=fun q=>⟨(h (k q).1).1,(k q).2.trans (h (k q).1).2⟩
theorem bJ {R:Rd}{i:Nat}{e:Int}(he:e≠0):Off R (aI R i e):=fun q=>absurd q (aZ he)
theorem tH {R:Rd}{i:Nat}{k:Int}{v:Bool}{z:Sc}(he:∀ j,¬ z = .bad j 0):Off R (bd R i k v z):=by
 cases z with
 | short=>exact bJ (by decide)
 | bad j e=>exact bJ fun q=>he j (by rw[q])
 | done o j=>
   intro q
   simp only[bd] at q ⊢
   by_cases hc:v=true∧Lib.validD o=false
   ·rw[if_pos hc] at q
    exact absurd q (aZ (by decide))
   ·rw[if_neg hc] at q ⊢
    exact⟨q,rfl⟩
theorem Jb (R:Rd)(i:Nat)(c:UInt8):Off R (eS R i c):=by
 unfold eS
 split
 ·exact tH fun j=>jW _ _ _ _
 split
 ·exact tH fun j=>kG _ _ _ _
 split
 ·exact fun q=>⟨q,rfl⟩
 split
 ·rcases kq R i with hq | ⟨w,q,hq⟩
  ·rw[hq];exact bJ (by decide)
  ·rw[hq]
   obtain⟨a,x,y⟩:=w
   obtain⟨⟨n,sc⟩,e⟩:=q
   by_cases he:e=0
   ·subst he;rw[cu];exact fun q=>⟨q,rfl⟩
   ·rw[ct he]
    intro q
    exact absurd q (aZ he)
 split
 ·exact fun q=>⟨q,rfl⟩
 split
 ·exact fun q=>⟨q,rfl⟩
 ·exact bJ (by decide)
theorem dx (R:Rd):Off R (aY R):=by
 by_cases h:R.e=0
 ·by_cases hi:R.s.length≤aK aC R.s R.next
  ·rw[sm h hi];exact fun q=>⟨q,rfl⟩
  ·obtain⟨c,hc⟩:∃ c,R.s[aK aC R.s R.next]? = some c:=⟨_,List.getElem?_eq_getElem (by omega)⟩
   rw[sl h hc]
   have h1:=Jb { R with now:={ pos:=aK aC R.s R.next },next:=aK aC R.s R.next } (aK aC R.s R.next) c
   generalize eS { R with now:={ pos:=aK aC R.s R.next },next:=aK aC R.s R.next } (aK aC R.s R.next) c=L at *
   intro q
   rw[sY] at q
   rw[fa q]
   exact h1 q
 ·rw[p8 h];exact .refl R
theorem dn (R:Rd)(t:List UInt8):Off R (aq R t):=by
 unfold aq
 split
 ·split
  ·exact dx R
  ·exact bJ (by decide)
 ·exact .refl R
theorem gP (R:Rd)(k:Int):Off R (fe R k).2:=by
 by_cases h0:R.e=0
 ·by_cases hk:R.now.kind=k
  ·rw[lO h0 hk];exact dx R
  ·rw[take_2 h0 hk];exact bJ (by decide)
 ·rw[take_3 h0];exact .refl R
theorem EW (R:Rd):Off R (bg R).2:=by
 unfold bg
 simp only
 split
 ·exact (gP R 1).trans (bJ (by decide))
 ·exact gP R 1
theorem l7 (R:Rd)(ps:List UInt8→Int×Int):Off R (bh R ps).2:=by
 unfold bh
 simp only
 split
 ·simp only
  split
  ·exact gP R 3
  ·rename_i hne;exact (gP R 3).trans (bJ hne)
 ·exact gP R 3
theorem tI {val:Rd→Val×Rd}(hv:∀ R,Off R (val R).2):∀ (k:Nat) (b:Bool) (l:List Val) (R:Rd),Off R (cJ val k b l R).2
 | 0,b,l,R=>.refl R
 | k+1,b,l,R=>by
   by_cases h:R.e=0∧isT R [93]=false
   ·rw[nd h]
    have h1:Off R (if b=true then R else aq R [44]):=by
     split
     ·exact .refl R
     ·exact dn R _
    exact (h1.trans (hv _)).trans (tI hv k false _ _)
   ·rw[nc h];exact .refl R
theorem Ar {val:Rd→Val×Rd}(hv:∀ R,Off R (val R).2):∀ (k:Nat) (b:Bool) (seen:List (List UInt8)) (l:List Fld) (R:Rd),Off R (iZ val k b seen l R).2
 | 0,b,seen,l,R=>.refl R
 | k+1,b,seen,l,R=>by
   by_cases h:R.e=0∧isT R [125]=false
   ·rw[mV h]
    have h1:Off R (if b=true then R else aq R [44]):=by
     split
     ·exact .refl R
     ·exact dn R _
    have h2:Off R (qr b R).2:=h1.trans (EW _)
    have h3:Off R (dJ seen b R):=by
     unfold dJ
     split
     ·exact h2.trans (bJ (by decide))
     ·exact h2
    exact ((h3.trans (dn _ _)).trans (hv _)).trans (Ar hv k false _ _ _)
   ·rw[mU h];exact .refl R
theorem As {val:Rd→Val×Rd}(hv:∀ R,Off R (val R).2)(R:Rd)(t:Tk)(d:Nat):Off R (bu val R t d).2:=by
 unfold bu
 split
 ·split
  ·split
   ·exact bJ (by decide)
   ·exact ((dx R).trans (hv _)).trans (dn _ _)
  split
  ·exact .refl R
  split
  ·exact .refl R
  split
  ·exact l7 R _
  split
  ·exact l7 R _
  split
  ·exact .refl R
  ·exact bJ (by decide)
 ·exact .refl R
theorem oW (so:List Fld→List Fld):∀ (f d:Nat) (R:Rd),Off R (aG so f d R).2
 | f,d,R=>by
   refine Classical.byCases (p:=¬ R.e=0) (fun h0=>by rw[oc h0];exact .refl R) fun h0=>?_
   have h0:R.e=0:=Classical.not_not.1 h0
   by_cases hg:cn R.now
   ·cases f with
    | zero=>rw[dc h0 hg];exact bJ (by decide)
    | succ f=>
      rw[eO h0 hg]
      have ih:=oW so f (d+1)
      unfold bc
      split
      ·exact dx R
      split
      ·exact dx R
      split
      ·exact dx R
      split
      ·exact dx R
      split
      ·exact ((dx R).trans (tI ih _ _ _ _)).trans (dn _ _)
      split
      ·exact ((dx R).trans (Ar ih _ _ _ _ _)).trans (dn _ _)
      ·exact (dx R).trans (As ih _ _ _)
   ·rw[f8 h0 hg];exact bJ (by decide)
end Go.Proofs.YtamoeblcphjbaaaGreatDoor
