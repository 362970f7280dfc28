/- A part. -/
import Derived.Test.YtamoeblcphjbaaaGreatDoorTyLZ4b
import Derived.Stop.LaidErr
set_option linter.unusedVariables false
set_option linter.unusedSimpArgs false
set_option maxHeartbeats 16000000
set_option maxRecDepth 100000
open List renaming length_append->WF,length_singleton->Xi,getElem?_eq_getElem->WE,mem_of_getElem?->WK,getElem?_map->WW,getElem?_eq_some_iff->WH
open Option renaming map_some->WZ,map_eq_some_iff->WI
namespace Go.Proofs.YtamoeblcphjbaaaGreatDoor
open Go Go.Ab
attribute [local irreducible] vc
theorem Sz (x:Typ):kM 7 1 [.pv x.pv]=some (.pv (.list [x.pv]),[]):=by
 obtain⟨w1,w2,w3,w4,w5,w6,w7⟩:=x
 rw[WB]
 exact gr rfl rfl
section
variable {T:Nat}{p:PV}
theorem Jb (K:Int)(hK:K=2\/K=5)(R:Rd)(d:Nat)(hd:d<8)(hR:OkR R)(hT:OkT R)(h0:R.e=0)(hk:R.now.kind=1)(hw:bH R.now.text=K)(kd:Rd->Typ×Rd)(val:Rd->Val×Rd)(s:List UInt8)(hsl:s.length<=65536)(hks:KF kd s)(hkc:Qa T p kd s (d+1))(hs:R.s=s) :
  aP Tryz.prog (ci T p) 1 56 [.ptr 0 0,.pv (.int .i64 (d:Int))] [rdB R] (.pv (cm kd val K (aw (bi R) [40])).1.pv) [rdB (aw (cm kd val K (aw (bi R) [40])).2 [41])]:=by
 have h0I:(R.e=0)=True:=eq_true h0
 have hkI:(R.now.kind=1)=True:=eq_true hk
 have hdI:¬ (8:Int)<=(d:Int):=by omega
 have hadv:=bL (T:=T) (p:=p) R hR
 have hfind:=toE (T:=T) (p:=p) (gE R.now.text)
 have hst:=(bq hR hT).1
 have hK0:¬ K=0:=by omega
 rw[hw,if_neg hK0] at hfind
 have hop:=aU (T:=T) (p:=p) (bi R) [40] hst.1
 have s0:=aO (t:=[40]) hst.1 hst.2.1
 have hs2:(aw (bi R) [40]).s=s:=s0.2.2.1.trans (hst.2.2.1.trans hs)
 clear hst hR hT
 generalize bi R=R1 at *
 generalize aw R1 [40]=R2 at *
 have hB:=tj (T:=T) (p:=p) K 0 0 0 R2 s0.1 s0.2.1
 have s2:=(dK (b:=cR) (fun R h ht=>⟨(cG h ht).1,(cG h ht).2.1⟩) s0.1 s0.2.1).1
 have e1:cm kd val K R2=(.mk K (eI cR R2).1.1 (eI cR R2).1.2 0 [] [] [],(eI cR R2).2):=by
  rcases hK with rfl | rfl<;>rfl
 rw[e1]
 clear e1
 generalize eI cR R2=Q at *
 obtain⟨⟨a,b⟩,L⟩:=Q
 simp only at hB s2 ⊢
 have hE:=aU (T:=T) (p:=p) L [41] s2.1
 simp only[rdB,rdC,tkP,tyB,tyC,WB] at hadv hop hB hE ⊢
 rcases hK with rfl | rfl
 all_goals
  refine aP.intro Q56.2 (by simp[Q56]) ?_
  simp(disch:=try exact dI) only[Q56,h0I,hkI,hdI,push_cast,seval]
  refine ae.lentK hadv [0] rfl qsZ qsZ ?_
  refine zgZ ?_
  refine ae.pure hfind rfl ?_
  refine zgZ ?_
  refine ae.lentK hop [0] rfl qsZ qsZ ?_
  refine zgZ ?_
  refine ae.lentK hB [0,12] rfl qsZ qsZ ?_
  refine zgZ ?_
  refine ae.lentK hE [0] rfl qsZ qsZ ?_
  refine zgZ ?_
  exact au [] qsZ
theorem D5 (K:Int)(hK:K=4)(R:Rd)(d:Nat)(hd:d<8)(hR:OkR R)(hT:OkT R)(h0:R.e=0)(hk:R.now.kind=1)(hw:bH R.now.text=K)(kd:Rd->Typ×Rd)(val:Rd->Val×Rd)(s:List UInt8)(hsl:s.length<=65536)(hks:KF kd s)(hkc:Qa T p kd s (d+1))(hs:R.s=s) :
  aP Tryz.prog (ci T p) 1 56 [.ptr 0 0,.pv (.int .i64 (d:Int))] [rdB R] (.pv (cm kd val K (aw (bi R) [40])).1.pv) [rdB (aw (cm kd val K (aw (bi R) [40])).2 [41])]:=by
 have h0I:(R.e=0)=True:=eq_true h0
 have hkI:(R.now.kind=1)=True:=eq_true hk
 have hdI:¬ (8:Int)<=(d:Int):=by omega
 have hadv:=bL (T:=T) (p:=p) R hR
 have hfind:=toE (T:=T) (p:=p) (gE R.now.text)
 have hst:=(bq hR hT).1
 have hK0:¬ K=0:=by omega
 rw[hw,if_neg hK0] at hfind
 have hop:=aU (T:=T) (p:=p) (bi R) [40] hst.1
 have s0:=aO (t:=[40]) hst.1 hst.2.1
 have hs2:(aw (bi R) [40]).s=s:=s0.2.2.1.trans (hst.2.2.1.trans hs)
 clear hst hR hT
 generalize bi R=R1 at *
 generalize aw R1 [40]=R2 at *
 have hB:=tj (T:=T) (p:=p) K 0 0 0 R2 s0.1 s0.2.1
 have s2:=(dK (b:=cR) (fun R h ht=>⟨(cG h ht).1,(cG h ht).2.1⟩) s0.1 s0.2.1).1
 subst hK
 by_cases hq:R2.e=0/\R2.now.kind=3
 ·obtain⟨q0,q3⟩:=hq
  have q0I:(R2.e=0)=True:=eq_true q0
  have q3I:(R2.now.kind=3)=True:=eq_true q3
  have e1:cm kd val 4 R2=(.mk 4 0 0 0 (kY (R2.s.length+3) true [] R2).1 [] [],(kY (R2.s.length+3) true [] R2).2):=by
   unfold cm
   rw[if_neg (by decide),if_neg (by decide),if_neg (by decide),if_neg (by decide),if_pos ⟨rfl,q0,q3⟩]
  rw[e1]
  clear e1 hB s2
  obtain⟨Z,hZ⟩:∃ Z,Z=kY (R2.s.length+3) true [] R2:=⟨_,rfl⟩
  rw[<- hZ]
  rw[hs2] at hZ
  simp only[rdB,rdC,tkP] at hadv hop ⊢
  refine aP.intro Q56.2 (by simp[Q56]) ?_
  simp(disch:=try exact dI) only[Q56,h0I,hkI,hdI,push_cast,seval]
  refine ae.lentK hadv [0] rfl qsZ qsZ ?_
  refine zgZ ?_
  refine ae.pure hfind rfl ?_
  refine zgZ ?_
  refine ae.lentK hop [0] rfl qsZ qsZ ?_
  simp(disch:=try exact dI) only[q0I,q3I,push_cast,seval]
  refine aG ([(8,5,9,1)]) (fun y:Bool×List (List UInt8)×Rd=>[(10,.pv (.bool y.1))]) (fun y=>[(0,rdB y.2.2),(3,.cells 48 true [.pv (.int .i64 4),.pv (.int .i64 0),.pv (.int .i64 0),.pv (.int .i64 0),.olist 4 1 (y.2.1.map PV.str),.pv .nils,.pv .nils])]) (fun y=>OkR y.2.2/\OkT y.2.2/\y.2.2.s=s/\y.2.1.length+msr y.2.2<=s.length+1/\∃ k,msr y.2.2<k/\Z=kY k y.1 y.2.1 y.2.2) (fun y=>msr y.2.2) ((true,[],R2)) ?_;intro e0 σ0 n0 h0;simp(disch:=try exact dI) only[push_cast,seval] at h0;obtain⟨rfl,rfl,rfl⟩:=h0;refine⟨?_,?_,?_⟩
  ·simp(disch:=try exact dI) only[rdB,rdC,push_cast,seval]
  ·refine⟨s0.1,s0.2.1,hs2,?_,s.length+3,?_,hZ⟩
   ·simp only[List.length_nil,msr,hs2];split<;>omega
   ·simp only[msr,hs2];split<;>omega
  rintro⟨b,l,L⟩ ⟨h1,h2,h3,h4,k,hk',hZk⟩
  simp only at h1 h2 h3 h4 hk' hZk
  obtain⟨k,rfl⟩:∃ j,k=j+1:=⟨k - 1,by omega⟩
  have hex:=aU (T:=T) (p:=p) L [41] h1
  have hl:l.length<=65540:=by omega
  by_cases he:L.e=0
  rotate_left
  ·rw[KJ he] at hZk
   subst hZk
   simp only[rdB,rdC] at hex
   simp(disch:=try exact dI) only[rdB,rdC,he,push_cast,seval]
   refine ae.lentK hex [0] rfl qsZ qsZ ?_
   refine zgZ ?_
   exact au [] (by simp(disch:=try exact dI) only[rdB,rdC,WB,push_cast,seval])
  have heI:(L.e=0)=True:=eq_true he
  cases b with
  | true=>
    rw[By he] at hZk
    have hcall:=jJ (T:=T) (p:=p) L 3 h1
    have g2:=dX (k:=3) h1 h2
    have hm:=om h1 he g2 (o7 h1 h2 (by decide))
    generalize bV L 3=q at *
    obtain⟨x,L2⟩:=q
    simp only at hcall hZk g2 hm
    have hmp:(l++[x.bytes]).map PV.str=l.map PV.str++[.str x.bytes]:=by simp
    have hbs:=SA x.bytes
    simp only[rdB,rdC,tkP] at hcall
    simp(disch:=try exact dI) only[rdB,rdC,heI,push_cast,seval]
    refine cp hcall [0] rfl qsZ qsZ ?_
    simp(disch:=try exact dI) only[hbs,push_cast,seval]
    exact⟨(false,l++[x.bytes],L2),bl (by simp(disch:=try exact dI) only[rdB,rdC,hmp,push_cast,seval]),⟨g2.1,g2.2.1,g2.2.2.1.trans h3,by simp only[WF,Xi];omega,k,by simp only;omega,hZk⟩,by simp only;omega⟩
  | false=>
    have hac:=gM (T:=T) (p:=p) L [124] h1
    have hav:bE L [124]=if isT L [124]=true then (true,bi L) else (false,L):=rfl
    rw[hav] at hac
    cases hi:isT L [124] with
    | true=>
      rw[hi,if_pos rfl] at hac
      rw[Bx he hi] at hZk
      obtain⟨a1,a2⟩:=bq h1 h2
      have hcall:=jJ (T:=T) (p:=p) (bi L) 3 a1.1
      have g2':=dX (k:=3) a1.1 a1.2.1
      have g2:=a1.trans g2'
      have hm:msr (bV (bi L) 3).2<msr L:=om h1 he g2 fun q=>by
       have:=o7 a1.1 a1.2.1 (k:=3) (by decide) q
       have:=(a1.2.2.2 (g2'.2.2.2 q).1).2
       omega
      generalize bi L=L1 at *
      generalize bV L1 3=q at *
      obtain⟨x,L2⟩:=q
      simp only at hcall hZk g2 hm
      have hmp:(l++[x.bytes]).map PV.str=l.map PV.str++[.str x.bytes]:=by simp
      have hbs:=SA x.bytes
      simp only[rdB,rdC,tkP] at hcall hac
      simp(disch:=try exact dI) only[rdB,rdC,heI,push_cast,seval]
      refine ae.lentK hac [0] rfl qsZ qsZ ?_
      refine zgZ ?_
      refine cp hcall [0] rfl qsZ qsZ ?_
      simp(disch:=try exact dI) only[hbs,push_cast,seval]
      exact⟨(false,l++[x.bytes],L2),bl (by simp(disch:=try exact dI) only[rdB,rdC,hmp,push_cast,seval]),⟨g2.1,g2.2.1,g2.2.2.1.trans h3,by simp only[WF,Xi];omega,k,by simp only;omega,hZk⟩,by simp only;omega⟩
    | false=>
      rw[hi,if_neg (by decide)] at hac
      rw[Bw he hi] at hZk
      subst hZk
      simp only[rdB,rdC] at hex hac
      simp(disch:=try exact dI) only[rdB,rdC,heI,push_cast,seval]
      refine ae.lentK hac [0] rfl qsZ qsZ ?_
      refine zgZ ?_
      refine ae.lentK hex [0] rfl qsZ qsZ ?_
      refine zgZ ?_
      exact au [] (by simp(disch:=try exact dI) only[rdB,rdC,WB,push_cast,seval])
 ·have e1:cm kd val 4 R2=(.mk 4 (eI cR R2).1.1 (eI cR R2).1.2 0 [] [] [],(eI cR R2).2):=by
   unfold cm
   rw[if_neg (by decide),if_neg (by decide),if_neg (by decide),if_neg (by decide),if_neg (fun q=>hq q.2)]
   rfl
  rw[e1]
  clear e1
  generalize eI cR R2=Q at *
  obtain⟨⟨a,b⟩,L⟩:=Q
  simp only at hB s2 ⊢
  have hE:=aU (T:=T) (p:=p) L [41] s2.1
  simp only[rdB,rdC,tkP,tyB,tyC,WB] at hadv hop hB hE ⊢
  have hqq:((R2.e=0)=True/\(R2.now.kind=3)=False)\/((R2.e=0)=False/\True):=by
   by_cases q0:R2.e=0
   ·exact .inl ⟨eq_true q0,eq_false fun q=>hq ⟨q0,q⟩⟩
   ·exact .inr ⟨eq_false q0,trivial⟩
  rcases hqq with hqq | hqq
  all_goals
   refine aP.intro Q56.2 (by simp[Q56]) ?_
   simp(disch:=try exact dI) only[Q56,h0I,hkI,hdI,push_cast,seval]
   refine ae.lentK hadv [0] rfl qsZ qsZ ?_
   refine zgZ ?_
   refine ae.pure hfind rfl ?_
   refine zgZ ?_
   refine ae.lentK hop [0] rfl qsZ qsZ ?_
   simp(disch:=try exact dI) only[hqq,push_cast,seval]
   refine ae.lentK hB [0,12] rfl qsZ qsZ ?_
   refine zgZ ?_
   refine ae.lentK hE [0] rfl qsZ qsZ ?_
   refine zgZ ?_
   exact au [] qsZ
theorem D6 (K:Int)(hK:K=8)(R:Rd)(d:Nat)(hd:d<8)(hR:OkR R)(hT:OkT R)(h0:R.e=0)(hk:R.now.kind=1)(hw:bH R.now.text=K)(kd:Rd->Typ×Rd)(val:Rd->Val×Rd)(s:List UInt8)(hsl:s.length<=65536)(hks:KF kd s)(hkc:Qa T p kd s (d+1))(hs:R.s=s) :
  aP Tryz.prog (ci T p) 1 56 [.ptr 0 0,.pv (.int .i64 (d:Int))] [rdB R] (.pv (cm kd val K (aw (bi R) [40])).1.pv) [rdB (aw (cm kd val K (aw (bi R) [40])).2 [41])]:=by
 have h0I:(R.e=0)=True:=eq_true h0
 have hkI:(R.now.kind=1)=True:=eq_true hk
 have hdI:¬ (8:Int)<=(d:Int):=by omega
 have hadv:=bL (T:=T) (p:=p) R hR
 have hfind:=toE (T:=T) (p:=p) (gE R.now.text)
 have hst:=(bq hR hT).1
 have hK0:¬ K=0:=by omega
 rw[hw,if_neg hK0] at hfind
 have hop:=aU (T:=T) (p:=p) (bi R) [40] hst.1
 have s0:=aO (t:=[40]) hst.1 hst.2.1
 have hs2:(aw (bi R) [40]).s=s:=s0.2.2.1.trans (hst.2.2.1.trans hs)
 clear hst hR hT
 generalize bi R=R1 at *
 generalize aw R1 [40]=R2 at *
 have hB:=tj (T:=T) (p:=p) K 0 0 0 R2 s0.1 s0.2.1
 have s2:=(dK (b:=cR) (fun R h ht=>⟨(cG h ht).1,(cG h ht).2.1⟩) s0.1 s0.2.1).1
 subst hK
 have hX:=aU (T:=T) (p:=p) (eI cR R2).2 [44] s2.1
 have s3:=s2.trans (aO (t:=[44]) s2.1 s2.2.1)
 have hN:=hkc (aw (eI cR R2).2 [44]) s3.1 s3.2.1 (s3.2.2.1.trans hs2)
 have s4:=(hks (aw (eI cR R2).2 [44]) s3.1 s3.2.1 (s3.2.2.1.trans hs2)).2.1
 have e1:cm kd val 8 R2=(.mk 8 (eI cR R2).1.1 (eI cR R2).1.2 0 [] [(kd (aw (eI cR R2).2 [44])).1] [],(kd (aw (eI cR R2).2 [44])).2):=rfl
 rw[e1]
 clear e1
 generalize eI cR R2=Q at *
 obtain⟨⟨a,b⟩,L⟩:=Q
 simp only at hB s2 hX s3 hN s4 ⊢
 generalize aw L [44]=L2 at *
 generalize kd L2=q at *
 obtain⟨x,L3⟩:=q
 simp only at hN s4 ⊢
 have hE:=aU (T:=T) (p:=p) L3 [41] s4.1
 have hbs:=Sz x
 obtain⟨t1,t2,t3,t4,t5,t6,t7⟩:=x
 simp only[rdB,rdC,tkP,tyB,tyC,WB,List.map_cons,List.map_nil] at hadv hop hB hX hN hE hbs ⊢
 refine aP.intro Q56.2 (by simp[Q56]) ?_
 simp(disch:=try exact dI) only[Q56,h0I,hkI,hdI,push_cast,seval]
 refine ae.lentK hadv [0] rfl qsZ qsZ ?_
 refine zgZ ?_
 refine ae.pure hfind rfl ?_
 refine zgZ ?_
 refine ae.lentK hop [0] rfl qsZ qsZ ?_
 refine zgZ ?_
 refine ae.lentK hB [0,12] rfl qsZ qsZ ?_
 refine zgZ ?_
 refine ae.lentK hX [0] rfl qsZ qsZ ?_
 refine zgZ ?_
 refine ae.lentK hN [0] rfl qsZ qsZ ?_
 simp(disch:=try exact dI) only[hbs,push_cast,seval]
 refine ae.lentK hE [0] rfl qsZ qsZ ?_
 refine zgZ ?_
 exact au [] qsZ
end
section
variable {T:Nat}{p:PV}
theorem RB (val:Rd->Val×Rd)(s:List UInt8)(hsl:s.length<=65536)(hv:ye val s)(hvc:Pv T p val s 0):∀ f d,f+d=8->Qa T p (cj val f) s d:=by
 intro f
 induction f with
 | zero=>
   intro d hd R hR hT hs
   obtain rfl:d=8:=by omega
   by_cases h0:¬ R.e=0
   ·rw[D4 h0];exact D8 R 8 h0
   have h0:R.e=0:=Classical.not_not.1 h0
   by_cases hk:¬ R.now.kind=1
   ·rw[pG h0 hk];exact wZ R 8 h0 hk
   have hk:R.now.kind=1:=Classical.not_not.1 hk
   rw[wV h0 hk];exact D9 R h0 hk
 | succ f ih=>
   intro d hd R hR hT hs
   by_cases h0:¬ R.e=0
   ·rw[D4 h0];exact D8 R d h0
   have h0:R.e=0:=Classical.not_not.1 h0
   by_cases hk:¬ R.now.kind=1
   ·rw[pG h0 hk];exact wZ R d h0 hk
   have hk:R.now.kind=1:=Classical.not_not.1 hk
   have hd8:d<8:=by omega
   by_cases w0:bH R.now.text=0
   ·rw[Lo h0 hk w0];exact Of R d hd8 hR hT h0 hk w0
   by_cases w1:bH R.now.text=1
   ·rw[pF h0 hk w1];exact Ea R d hd8 hR hT h0 hk w1
   rw[D3 h0 hk w0 w1]
   have ihS:=Og s hsl hv f
   have ihC:=ih (d+1) (by omega)
   have hle:=r6 R.now.text
   obtain⟨K,hK⟩:∃ K,bH R.now.text=K:=⟨_,rfl⟩
   rw[hK] at w0 w1 hle ⊢
   have hc:K=3\/K=6\/K=7\/(K=9\/K=10)\/(K=2\/K=5)\/K=4\/K=8:=by omega
   rcases hc with rfl | rfl | rfl | h | h | h | h
   ·exact Jc R d hd8 hR hT h0 hk hK _ _
   ·exact wY 6 126 bU (.inl ⟨rfl,rfl,rfl⟩) R d hd8 hR hT h0 hk hK _ _
   ·exact wY 7 129 bG (.inr ⟨rfl,rfl,rfl⟩) R d hd8 hR hT h0 hk hK _ _
   ·exact D7 K h R d hd8 hR hT h0 hk hK _ _ s hsl ihS ihC hv hvc hs
   ·exact Jb K h R d hd8 hR hT h0 hk hK _ _ s hsl ihS ihC hs
   ·exact D5 K h R d hd8 hR hT h0 hk hK _ _ s hsl ihS ihC hs
   ·exact D6 K h R d hd8 hR hT h0 hk hK _ _ s hsl ihS ihC hs
theorem Ui (s:List UInt8):(cj (aS srt 8 0) 8 (cL s)).1.ok/\aP Tryz.prog (ci T p) 1 56 [.ptr 0 0,.pv (.int .i64 0)] [rdB (cL s)] (.pv (cj (aS srt 8 0) 8 (cL s)).1.pv) [rdB (cj (aS srt 8 0) 8 (cL s)).2]:=by
 by_cases h:s.length<=65536
 ·exact⟨(Og s h (vC s h 8 0) 8 _ (wA s) (rt s) (Cd s)).1,RB (aS srt 8 0) s h (vC s h 8 0) (Qf s h 8 0 rfl) 8 0 rfl _ (wA s) (rt s) (Cd s)⟩
 ·have he:¬ (cL s).e=0:=by rw[lS (by omega)];exact fun h=>absurd (show (5:Int)=0 from h) (by decide)
  rw[D4 he]
  exact⟨fg,D8 (cL s) 0 he⟩
end
section
variable {T:Nat}{p:PV}
theorem Iu (s:List UInt8):am Tryz.prog (ci T p) 26 [.str s] (.tup [(jW s).1.pv,.int .i64 (jW s).2.1,.int .i64 (jW s).2.2]):=by
 have h45:=MH (T:=T) (p:=p) s
 obtain⟨hok,h56⟩:=Ui (T:=T) (p:=p) s
 unfold jW
 generalize cL s=R0 at *
 generalize cj (aS srt 8 0) 8 R0=q at *
 obtain⟨v,R1⟩:=q
 simp only at hok h56 ⊢
 have h47:=JF (T:=T) (p:=p) R1
 have h31:=toE (T:=T) (p:=p) (u7 v hok)
 unfold OP
 generalize ka R1=R2 at *
 generalize qu v=c at *
 obtain⟨w1,w2,w3,w4,w5,w6,w7⟩:=v
 simp only[rdB,rdC,WB] at h45 h56 h47 h31
 by_cases he:R2.e=0
 ·have heI:(R2.e=0)=True:=eq_true he
  rw[if_pos he]
  by_cases hc:c=0
  ·have hcI:(c=0)=True:=eq_true hc
   rw[if_pos hc]
   refine am.intro Q26.2 (by simp[Q26]) ?_
   simp(disch:=try exact dI) only[Q26,WB,push_cast,seval]
   refine ae.lentK h45 [] rfl qsZ qsZ ?_
   refine zgZ ?_
   refine ae.lentK h56 [1] rfl qsZ qsZ ?_
   refine zgZ ?_
   refine ae.lentK h47 [1] rfl qsZ qsZ ?_
   simp(disch:=try exact dI) only[heI,push_cast,seval]
   refine ae.pure h31 rfl ?_
   simp(disch:=try exact dI) only[hcI,push_cast,seval]
  ·rw[if_neg hc]
   refine am.intro Q26.2 (by simp[Q26]) ?_
   simp(disch:=try exact dI) only[Q26,WB,bX,push_cast,seval]
   refine ae.lentK h45 [] rfl qsZ qsZ ?_
   refine zgZ ?_
   refine ae.lentK h56 [1] rfl qsZ qsZ ?_
   refine zgZ ?_
   refine ae.lentK h47 [1] rfl qsZ qsZ ?_
   simp(disch:=try exact dI) only[heI,push_cast,seval]
   refine ae.pure h31 rfl ?_
   simp(disch:=try exact dI) only[hc,push_cast,seval]
 ·rw[if_neg he]
  refine am.intro Q26.2 (by simp[Q26]) ?_
  simp(disch:=try exact dI) only[Q26,WB,bX,push_cast,seval]
  refine ae.lentK h45 [] rfl qsZ qsZ ?_
  refine zgZ ?_
  refine ae.lentK h56 [1] rfl qsZ qsZ ?_
  refine zgZ ?_
  refine ae.lentK h47 [1] rfl qsZ qsZ ?_
  simp(disch:=try exact dI) only[he,push_cast,seval]
end
theorem UA (w:List (List UInt8))(hw:w.length<=9000000000000):am Tryz.prog aC 57 [.list (w.map PV.str),.list (w.map PV.str)] (.bool true):=by
 refine am.intro Q57.2 (by simp[Q57]) ?_
 simp(disch:=try exact dI) only[Q57,push_cast,seval]
 refine aG ([]) (fun i:Nat=>[(13,.pv (.int .i64 (i:Int)))]) (fun _=>[]) (fun i=>i<=w.length) (fun i=>w.length - i) (0) ?_;intro e0 σ0 n0 h0;simp(disch:=try exact dI) only[push_cast,seval] at h0;obtain⟨rfl,rfl,rfl⟩:=h0;refine⟨?_,?_,?_⟩
 ·exact qsZ
 ·exact Nat.zero_le _
 intro i hi
 by_cases hlt:i<w.length
 ·have hltI:(i:Int)<(w.length:Int):=by omega
  obtain⟨x,hx⟩:∃ x,w[i]? = some x:=⟨_,WE hlt⟩
  simp(disch:=try exact dI) only[hx,eq_self,push_cast,seval]
  exact⟨i+1,bl qsZ,by omega,by omega⟩
 ·have hltI:¬ (i:Int)<(w.length:Int):=by omega
  exact qsZ
theorem Uz (l:List Typ)(g:Nat)(hg:∀ x∈l,am Tryz.prog aC g [x.pv,x.pv] (.bool true))(hl:l.length<=9000000000000):am Tryz.prog aC 58 [.list (l.map Typ.pv),.list (l.map Typ.pv),.clo g [] []] (.bool true):=by
 refine am.intro Q58.2 (by simp[Q58]) ?_
 simp(disch:=try exact dI) only[Q58,push_cast,seval]
 refine aG ([]) (fun m:Nat=>[(17,.pv (.int .i64 (m:Int)))]) (fun _=>[]) (fun m=>m<=l.length) (fun m=>l.length - m) (0) ?_;intro e0 σ0 n0 h0;simp(disch:=try exact dI) only[push_cast,seval] at h0;obtain⟨rfl,rfl,rfl⟩:=h0;refine⟨?_,?_,?_⟩
 ·exact qsZ
 ·exact Nat.zero_le _
 intro m hm
 by_cases hlt:m<l.length
 ·have hltI:(m:Int)<(l.length:Int):=by omega
  obtain⟨x,hx⟩:∃ x,l[m]? = some x:=⟨_,WE hlt⟩
  have hcall:=hg x (WK hx)
  obtain⟨w1,w2,w3,w4,w5,w6,w7⟩:=x
  simp only[WB] at hcall
  simp(disch:=try exact dI) only[hx,WZ,WB,ap,push_cast,seval]
  refine ae.pure hcall rfl ?_
  refine zgZ ?_
  exact⟨m+1,bl qsZ,by omega,by omega⟩
 ·have hltI:¬ (m:Int)<(l.length:Int):=by omega
  exact qsZ
theorem Uy (l:List Val)(g:Nat)(hg:∀ x∈l,am Tryz.prog aC g [x.pv,x.pv] (.bool true))(hl:l.length<=9000000000000):am Tryz.prog aC 61 [.list (l.map Val.pv),.list (l.map Val.pv),.clo g [] []] (.bool true):=by
 refine am.intro Q61.2 (by simp[Q61]) ?_
 simp(disch:=try exact dI) only[Q61,push_cast,seval]
 refine aG ([]) (fun m:Nat=>[(17,.pv (.int .i64 (m:Int)))]) (fun _=>[]) (fun m=>m<=l.length) (fun m=>l.length - m) (0) ?_;intro e0 σ0 n0 h0;simp(disch:=try exact dI) only[push_cast,seval] at h0;obtain⟨rfl,rfl,rfl⟩:=h0;refine⟨?_,?_,?_⟩
 ·exact qsZ
 ·exact Nat.zero_le _
 intro m hm
 by_cases hlt:m<l.length
 ·have hltI:(m:Int)<(l.length:Int):=by omega
  obtain⟨x,hx⟩:∃ x,l[m]? = some x:=⟨_,WE hlt⟩
  have hcall:=hg x (WK hx)
  obtain⟨w1,w2,w3,w4,w5,w6⟩:=x
  simp only[WD] at hcall
  simp(disch:=try exact dI) only[hx,WZ,WD,ap,push_cast,seval]
  refine ae.pure hcall rfl ?_
  refine zgZ ?_
  exact⟨m+1,bl qsZ,by omega,by omega⟩
 ·have hltI:¬ (m:Int)<(l.length:Int):=by omega
  exact qsZ
theorem UB (l:List TFd)(g:Nat)(hg:∀ x∈l,am Tryz.prog aC g [x.pv,x.pv] (.bool true))(hl:l.length<=9000000000000):am Tryz.prog aC 59 [.list (l.map TFd.pv),.list (l.map TFd.pv),.clo g [] []] (.bool true):=by
 refine am.intro Q59.2 (by simp[Q59]) ?_
 simp(disch:=try exact dI) only[Q59,push_cast,seval]
 refine aG ([]) (fun m:Nat=>[(17,.pv (.int .i64 (m:Int)))]) (fun _=>[]) (fun m=>m<=l.length) (fun m=>l.length - m) (0) ?_;intro e0 σ0 n0 h0;simp(disch:=try exact dI) only[push_cast,seval] at h0;obtain⟨rfl,rfl,rfl⟩:=h0;refine⟨?_,?_,?_⟩
 ·exact qsZ
 ·exact Nat.zero_le _
 intro m hm
 by_cases hlt:m<l.length
 ·have hltI:(m:Int)<(l.length:Int):=by omega
  obtain⟨x,hx⟩:∃ x,l[m]? = some x:=⟨_,WE hlt⟩
  have hcall:=hg x (WK hx)
  obtain⟨u1,u2,u3,⟨w1,w2,w3,w4,w5,w6,w7⟩,u5⟩:=x
  simp only[Wt,WB,ap] at hcall
  simp(disch:=try exact dI) only[hx,WZ,Wt,WB,ap,push_cast,seval]
  refine ae.pure hcall rfl ?_
  refine zgZ ?_
  exact⟨m+1,bl qsZ,by omega,by omega⟩
 ·have hltI:¬ (m:Int)<(l.length:Int):=by omega
  exact qsZ
theorem UC (x:TFd)(hT:am Tryz.prog aC 27 [x.typ.pv,x.typ.pv] (.bool true))(hd:x.dflt.length<=9000000000000)(hv:∀ v∈x.dflt,v.ok):am Tryz.prog aC 60 [x.pv,x.pv] (.bool true):=by
 obtain⟨u1,u2,u3,⟨w1,w2,w3,w4,w5,w6,w7⟩,u5⟩:=x
 have h61:=Uy u5 19 (fun v hx=>Aw v (hv v hx)) hd
 simp only[TFd.typ,WB] at hT
 refine am.intro Q60.2 (by simp[Q60]) ?_
 simp(disch:=try exact dI) only[Q60,Wt,WB,ap,eq_self,push_cast,seval]
 refine ae.pure hT rfl ?_
 refine zgZ ?_
 refine ae.pure h61 rfl ?_
 exact qsZ
theorem Fa:∀ (n:Nat) (t:Typ),bN n t->am Tryz.prog aC 27 [t.pv,t.pv] (.bool true)
 | 0,_,h=>h.elim
 | n+1,.mk k m M s w e f,h=>by
   have ih:=Fa n
   simp only[bN] at h
   obtain⟨hw,hel,hfl,he,hf⟩:=h
   have h57:=UA w (by omega)
   have h58:=Uz e 27 (fun x hx=>ih x (he x hx)) (by omega)
   have h59:=UB f 60 (fun g hg=>UC g (ih g.typ (hf g hg).2.2) (by have:=(hf g hg).1;omega) (hf g hg).2.1) (by omega)
   refine am.intro Q27.2 (by simp[Q27]) ?_
   simp(disch:=try exact dI) only[Q27,WB,eq_self,push_cast,seval]
   refine ae.pure h57 rfl ?_
   refine zgZ ?_
   refine ae.pure h58 rfl ?_
   refine zgZ ?_
   refine ae.pure h59 rfl ?_
   exact qsZ
theorem RS (t:Typ)(ht:t.ok):am Tryz.prog aC 27 [t.pv,t.pv] (.bool true):=by
 obtain⟨n,hn⟩:=iY t ht
 exact Fa n t hn
open Go.RowKit
theorem yA (t:Typ)(ht:t.ok):am Tryz.prog aC 30 [t.pv] (if qu t=0 then .tup [.str (Rv (aI 8 t)),.int .i64 (Rw (aI 8 t))] else .tup [.str [],.int .i64 (qu t)]):=by
 have h31:=u7 t ht
 have h62:qu t=0->am Tryz.prog aC 62 [t.pv] (.str (aI 8 t)):=fun h=>KR 8 t (pf h) (vX h)
 have h36:=DV (aI 8 t)
 generalize qu t=c at *
 generalize aI 8 t=X at *
 generalize Rv X=S at *
 generalize Rw X=E at *
 obtain⟨t1,t2,t3,t4,t5,t6,t7⟩:=t
 simp only[WB] at h31 h62 ⊢
 by_cases hc:c=0
 ·have h62:=h62 hc
  have hcI:(c=0)=True:=eq_true hc
  rw[if_pos hc]
  refine am.intro Q30.2 (by simp[Q30]) ?_
  simp(disch:=try exact dI) only[Q30,ap,push_cast,seval]
  refine ae.pure h31 rfl ?_
  simp(disch:=try exact dI) only[hcI,push_cast,seval]
  refine ae.pure h62 rfl ?_
  refine zgZ ?_
  refine ae.pure h36 rfl ?_
  exact qsZ
 ·rw[if_neg hc]
  refine am.intro Q30.2 (by simp[Q30]) ?_
  simp(disch:=try exact dI) only[Q30,ap,push_cast,seval]
  refine ae.pure h31 rfl ?_
  simp(disch:=try exact dI) only[hc,push_cast,seval]
section
variable {T:Nat}{p:PV}
theorem Uh (t:Typ)(ht:t.ok):am Tryz.prog (ci T p) 11 [t.pv] (.bool true):=by
 obtain⟨N,hN⟩:=iY t ht
 have hk:=toE (T:=T) (p:=p) Od
 have h28:=toE (T:=T) (p:=p) (Fp N t hN)
 have h29:=toE (T:=T) (p:=p) (KX N t hN)
 have h30:=toE (T:=T) (p:=p) (yA t ht)
 have h31:=toE (T:=T) (p:=p) (u7 t ht)
 have h27:=toE (T:=T) (p:=p) (RS t ht)
 have h32:qu t=0->am Tryz.prog (ci T p) 32 [t.pv] (.str (aI 8 t)):=fun h=>toE (T:=T) (p:=p) (KT 8 t (pf h) (vX h))
 have h26:qu t=0->(aI 8 t).length<=65536->am Tryz.prog (ci T p) 26 [.str (aI 8 t)] (.tup [t.pv,.int .i64 0,.int .i64 0]):=fun h hl=>by
  have:=Iu (T:=T) (p:=p) (aI 8 t)
  rw[tg h hl] at this
  exact this
 clear hN
 generalize dTW N t=D at *
 generalize sTW N t=Z at *
 generalize qu t=c at *
 unfold Rv Rw at h30
 generalize aI 8 t=X at *
 obtain⟨t1,t2,t3,t4,t5,t6,t7⟩:=t
 simp only[WB] at h28 h29 h30 h31 h27 h32 h26 ⊢
 clear ht
 refine am.intro Q11.2 (by simp[Q11]) ?_
 simp(disch:=try exact dI) only[Q11,ap,push_cast,seval]
 refine ae.pure hk rfl ?_
 refine zgZ ?_
 refine ae.pure h28 rfl ?_
 by_cases hD:12<D
 ·simp(disch:=try exact dI) only[hD,push_cast,seval]
  refine ae.pure hk rfl ?_
  exact qsZ
 simp(disch:=try exact dI) only[hD,push_cast,seval]
 refine ae.pure h29 rfl ?_
 by_cases hZ:200<Z
 ·simp(disch:=try exact dI) only[hZ,push_cast,seval]
  refine ae.pure hk rfl ?_
  exact qsZ
 simp(disch:=try exact dI) only[hZ,push_cast,seval]
 by_cases hc:c=0
 ·have hcI:(c=0)=True:=eq_true hc
  have h32:=h32 hc
  have h26:=h26 hc
  rw[if_pos hc] at h30
  by_cases hl:65536<X.length
  ·have hlI:(65536:Int)<(X.length:Int):=by omega
   rw[if_pos hl,if_pos hl] at h30
   refine ae.pure h30 rfl ?_
   refine zgZ ?_
   refine ae.pure h31 rfl ?_
   simp(disch:=try exact dI) only[hcI,push_cast,seval]
   refine ae.pure h32 rfl ?_
   simp(disch:=try exact dI) only[hlI,push_cast,seval]
  ·have hlI:¬ (65536:Int)<(X.length:Int):=by omega
   have h26:=h26 (by omega)
   rw[if_neg hl,if_neg hl] at h30
   refine ae.pure h30 rfl ?_
   refine zgZ ?_
   refine ae.pure h31 rfl ?_
   simp(disch:=try exact dI) only[hcI,push_cast,seval]
   refine ae.pure h32 rfl ?_
   simp(disch:=try exact dI) only[hlI,push_cast,seval]
   refine ae.pure h26 rfl ?_
   simp(disch:=try exact dI) only[eq_self,ap,push_cast,seval]
   refine ae.pure h27 rfl ?_
   exact qsZ
 ·rw[if_neg hc] at h30
  refine ae.pure h30 rfl ?_
  refine zgZ ?_
  refine ae.pure h31 rfl ?_
  simp(disch:=try exact dI) only[hc,eq_self,push_cast,seval]
end
theorem GP (q:PV)(p0:PV)(h0:HasT Tryz.prog 48 p0):am Tryz.prog (ci 270 q) 11 [p0] (.bool true):=by
 obtain⟨t,rfl,ht⟩:=Jo h0
 exact Uh t ht
open Go.Lib Go.Proofs
theorem u8X:U8Extra Tryz.prog Tryz.lays196_ren:=⟨by kernel_rfl,by kernel_rfl,by kernel_rfl,by kernel_rfl,by kernel_rfl,by kernel_rfl,by kernel_rfl⟩
theorem Ju {W:World}(h1:VarReads Tryz.prog W "unicode/utf8.first" firstData) (h2:VarReads Tryz.prog W "unicode/utf8.acceptRanges" acceptData)
  (h3:VarReads Tryz.prog W "internal/strconv.uint64pow10" (tabData .u64 pow10Tab)) (h5:VarReads Tryz.prog W "math/bits.deBruijn64tab" (tabData .u8 (deBruijn64tab.map fun n:Nat=>(n:Int)))):dd aC W (pO W):=by
 have hu:=utf8Tabs_of_readsT (U8Types.of196 Ww) u8X h1 h2
 refine EH fun g hg=>?_
 unfold aC at hg ⊢
 by_cases e3:g=3
 ·subst e3
  exact nT (t:=219) (e:=181) (m:=20) h3 (by kernel_rfl) (by kernel_rfl) (by kernel_rfl) (by kernel_rfl) (by kernel_rfl) (by kernel_rfl) (by kernel_rfl)
 rw[if_neg e3] at hg ⊢
 by_cases e1:g=0
 ·subst e1
  rw[if_pos rfl] at hg ⊢
  refine o9 (t:=159) (e:=5) (m:=256) h1 (by kernel_rfl) (by kernel_rfl) (by kernel_rfl) (by kernel_rfl) fun o p hp=>?_
  rw[Tb,WW,WI] at hp
  obtain⟨c,hc,rfl⟩:=hp
  obtain⟨hlt,hcc⟩:=WH.1 hc
  simp at hlt hcc
  subst hcc
  exact⟨_,_,rfl,hu.1 o hlt⟩
 rw[if_neg e1] at hg ⊢
 by_cases e2:g=1
 ·subst e2
  rw[if_pos rfl] at hg ⊢
  refine o9 (t:=162) (e:=161) (m:=16) h2 (by kernel_rfl) (by kernel_rfl) (by kernel_rfl) (by kernel_rfl) fun o p hp=>?_
  rw[PH,WW,WI] at hp
  obtain⟨c,hc,rfl⟩:=hp
  obtain⟨hlt,hcc⟩:=WH.1 hc
  simp at hlt hcc
  subst hcc
  have:=hu.2 (o / 2) (by omega)
  by_cases ho:o % 2=0
  ·rw[if_pos ho]
   refine⟨_,_,rfl,?_⟩
   have:=this.1
   rwa [show 2*(o / 2)=o by omega] at this
  ·rw[if_neg ho]
   refine⟨_,_,rfl,?_⟩
   have:=this.2
   rwa [show 2*(o / 2)+1=o by omega] at this
 rw[if_neg e2] at hg ⊢
 by_cases e5:g=5
 ·subst e5
  rw[if_pos rfl] at hg ⊢
  have:=nT (g:=5) (t:=257) (e:=5) (m:=64) h5 (by kernel_rfl) (by kernel_rfl) (by kernel_rfl) (by kernel_rfl) (by kernel_rfl) (by kernel_rfl) (by kernel_rfl)
  rw[List.map_map] at this
  exact this
 rw[if_neg e5] at hg
 exact absurd rfl hg
open Go.ChangeShapes
theorem Qp : "*" ++ "errors.errorString" = "*errors.errorString":=by decide
theorem QO (u:TypeId)(h:Tryz.prog.typeName? 3 u=some "*errors.errorString"):u=270:=
 typeName_ptr_named (nm:= "errors.errorString") (by rw[Qp];kernel_rfl) (by kernel_rfl) (by decide) u (by rw[Qp];exact h)
theorem RR {text:List UInt8}{r:List (String×DataW Unit)}{W:World}(h:laidMet Tryz.prog (("strconv.ErrSyntax",.iface "*errors.errorString" (.ptr (.agg [.lit (.string text)])))::r) W) :
  ∃ (a:Addr) (s:ByteArray),W.var? Tryz.prog "strconv.ErrSyntax" = some #[.iface 270 (.pointer (some a))]/\W.cell? a=some (.string s)/\s.data.toList=text/\s.size<=maxLen:=
 laid_sentinel h (g:=6) (ti:=85) (te:=272) (ts:=9) (by kernel_rfl) (by kernel_rfl) Tryz.underlying85 QO Tryz.underlying270 Tryz.underlying272 rfl rfl Tryz.underlying9 (by kernel_rfl) (by kernel_rfl)
theorem EG {W:World}(h1:VarReads Tryz.prog W "unicode/utf8.first" firstData) (h2:VarReads Tryz.prog W "unicode/utf8.acceptRanges" acceptData)
  (h3:VarReads Tryz.prog W "internal/strconv.uint64pow10" (tabData .u64 pow10Tab)) (h5:VarReads Tryz.prog W "math/bits.deBruijn64tab" (tabData .u8 (deBruijn64tab.map fun n:Nat=>(n:Int))))
  (hE:∃ (a:Addr) (s:ByteArray),W.var? Tryz.prog "strconv.ErrSyntax" = some #[.iface 270 (.pointer (some a))]/\W.cell? a=some (.string s)):∃ p,dd (ci 270 p) W (pO W):=by
 obtain⟨⟨b,o,sp⟩,s,hv,hc⟩:=hE
 have hsp:sp=none:=by
  unfold World.cell? at hc
  cases sp with
  | none=>rfl
  | some k=>split at hc<;>simp at hc
 subst hsp
 have hg:Tryz.prog.globalNamed "strconv.ErrSyntax" = some 6:=by kernel_rfl
 have hcell:W.cell? ⟨6,0,none⟩=some (.iface 270 (.pointer (some ⟨b,o,none⟩))):=by
  have:=World.var?_cell hg hv 0
  simpa using this
 have hG:=Ju h1 h2 h3 h5
 refine⟨.gptr b o,fun g o' p hp=>?_,fun g hg'=>?_⟩
 ·unfold ci at hp
  by_cases e0:g=6
  ·subst e0
   rw[if_pos rfl] at hp
   cases o' with
   | zero=>cases hp;exact⟨World.block_lt_of_cell? W _ hcell,_,hcell,rfl,.iface _ _ _ (.gptr _ _)⟩
   | succ o'=>simp at hp
  ·rw[if_neg e0] at hp
   exact hG.1 g o' p hp
 ·unfold ci at hg' ⊢
  by_cases e0:g=6
  ·subst e0
   rw[if_pos rfl]
   unfold World.var? at hv
   rw[hg] at hv
   simp only[Option.bind_some] at hv
   split at hv
   ·rename_i cs T fz hh
    cases hv
    exact⟨_,T,fz,hh,rfl⟩
   ·cases hv
  ·rw[if_neg e0] at hg' ⊢
   exact hG.2 g hg'
