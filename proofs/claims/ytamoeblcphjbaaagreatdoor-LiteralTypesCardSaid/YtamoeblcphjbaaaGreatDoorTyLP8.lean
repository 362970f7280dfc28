/- A part. -/
import Derived.Test.YtamoeblcphjbaaaGreatDoorTyLP6
set_option linter.unusedVariables false
set_option linter.unusedSimpArgs false
set_option maxHeartbeats 16000000
set_option maxRecDepth 100000
open List renaming getElem?_eq_getElem->WE,getElem?_eq_some_iff->WH,length_take->Xd,mem_of_getElem?->WK,map_append->XG,take_of_length_le->Xm
namespace Go.Proofs.YtamoeblcphjbaaaGreatDoor
open Go Go.Ab
attribute [local irreducible] vc
theorem C3 {s:List UInt8}{i:Nat}{c a b:UInt8}(hc:s[i]? = some c):ii [a,b] (s.drop i)=(decide (c=a)&&decide (s[i+1]? = some b)):=by
 rw[dm hc,ii]
 cases hd:s[i+1]? with
 | none=>
   have:s.drop (i+1)=[]:=List.drop_eq_nil_of_le (List.getElem?_eq_none_iff.1 hd)
   rw[this]
   simp
 | some x=>
   rw[dm hd]
   simp[Bool.decide_and]
section
variable {T:Nat}{p:PV}
theorem Uf {R:Rd}{i:Nat}{c:UInt8}(h:c.toNat=34):fc R i c=vT R i:=if_pos h
theorem Ue {R:Rd}{i:Nat}{c:UInt8}(h:c.toNat=120/\R.s[i+1]? = some 34):fc R i c=xm R i:=by unfold fc;rw[if_neg (by omega),if_pos h]
theorem Ud {R:Rd}{i:Nat}{c:UInt8}(h1:¬ c.toNat=34)(h2:¬ (c.toNat=120/\R.s[i+1]? = some 34))(h3:aY c=true):fc R i c = { R with next:=bR db R.s i,now:={ R.now with kind:=1 } }:=by unfold fc;rw[if_neg h1,if_neg h2,if_pos h3]
theorem Uc {R:Rd}{i:Nat}{c:UInt8}(h1:¬ c.toNat=34)(h2:¬ (c.toNat=120/\R.s[i+1]? = some 34))(h3:¬ aY c=true)(h4:isD c=true\/c.toNat=45):fc R i c=rC R i:=by unfold fc;rw[if_neg h1,if_neg h2,if_neg h3,if_pos h4]
theorem Ry {R:Rd}{i:Nat}{c:UInt8}(h1:¬ c.toNat=34)(h2:¬ (c.toNat=120/\R.s[i+1]? = some 34))(h3:¬ aY c=true)(h4:¬ (isD c=true\/c.toNat=45))(h5:c.toNat=46/\R.s[i+1]? = some 46):fc R i c = { R with next:=i+2,now:={ R.now with kind:=5 } }:=by unfold fc;rw[if_neg h1,if_neg h2,if_neg h3,if_neg h4,if_pos h5]
theorem Ub {R:Rd}{i:Nat}{c:UInt8}(h1:¬ c.toNat=34)(h2:¬ (c.toNat=120/\R.s[i+1]? = some 34))(h3:¬ aY c=true)(h4:¬ (isD c=true\/c.toNat=45))(h5:¬ (c.toNat=46/\R.s[i+1]? = some 46))(h6:vP c=true):fc R i c = { R with next:=i+1,now:={ R.now with kind:=5 } }:=by unfold fc;rw[if_neg h1,if_neg h2,if_neg h3,if_neg h4,if_neg h5,if_pos h6]
theorem Ua {R:Rd}{i:Nat}{c:UInt8}(h1:¬ c.toNat=34)(h2:¬ (c.toNat=120/\R.s[i+1]? = some 34))(h3:¬ aY c=true)(h4:¬ (isD c=true\/c.toNat=45))(h5:¬ (c.toNat=46/\R.s[i+1]? = some 46))(h6:¬ vP c=true):fc R i c=ba R i 13:=by unfold fc;rw[if_neg h1,if_neg h2,if_neg h3,if_neg h4,if_neg h5,if_neg h6]
theorem lM {R:Rd}{i:Nat}(h:R.e=0):dH R i = { R with now:={ R.now with text:=(R.s.take R.next).drop i } }:=if_pos h
theorem vN {R:Rd}{i:Nat}(h:¬ R.e=0):dH R i=R:=if_neg h
theorem bL (R:Rd)(hR:OkR R):aP Tryz.prog (ci T p) 1 93 [.ptr 0 0] [rdB R] (.pv (tkP R.now)) [rdB (bi R)]:=by
 by_cases h0:¬ R.e=0
 ·rw[A7 h0]
  refine aP.intro Q93.2 (by simp[Q93]) ?_
  simp(disch:=try exact dI) only[Q93,rdB,rdC,h0,push_cast,seval]
  exact au [] (by simp(disch:=try exact dI) only[rdB,rdC,tkP,push_cast,seval])
 have h0:R.e=0:=Classical.not_not.1 h0
 have h0I:(R.e=0)=True:=eq_true h0
 obtain⟨hs,_,hnx,_⟩:=hR h0
 have hrun:=Cl (T:=T) (p:=p) R R.next 158 aW Kc hs hnx
 have hi2:bR aW R.s R.next<=R.s.length:=fp hnx
 have hadv0:=Gf (R:=R) h0
 have hadvc:=fun c=>Ge (R:=R) (c:=c) h0
 simp only[rdB,rdC] at hrun
 generalize bR aW R.s R.next=i at *
 by_cases hi:R.s.length<=i
 ·rw[hadv0 hi]
  obtain rfl:i=R.s.length:=by omega
  refine aP.intro Q93.2 (by simp[Q93]) ?_
  simp(disch:=try exact dI) only[Q93,rdB,rdC,h0I,push_cast,seval]
  refine ae.lentK hrun [0] rfl qsZ qsZ ?_
  refine zgZ ?_
  exact au [] (by simp(disch:=try exact dI) only[rdB,rdC,tkP,push_cast,seval])
 have hlt:i<R.s.length:=by omega
 have hltI:¬ (i:Int)=(R.s.length:Int):=by omega
 have hltI2:(i:Int)<(R.s.length:Int):=by omega
 obtain⟨c,hc⟩:∃ c,R.s[i]? = some c:=⟨_,WE hlt⟩
 rw[hadvc c hc]
 obtain⟨R1,hR1⟩:∃ R1:Rd,R1 = { R with now:={ pos:=i },next:=i }:=⟨_,rfl⟩
 have q1:R1.s=R.s:=by rw[hR1]
 have hb1:rdC R1=[.pv (.str R.s),.pv (.int .i64 (i:Int)),.pv (.int .i64 0),.pv (.int .i64 (i:Int)),.pv (.str []),.pv (.str []),.pv (.int .i64 0),.pv (.int .i64 0),.pv (.bool false),.pv (.bool false),.pv (.int .i64 R.e),.pv (.int .i64 (R.off:Int))]:=by rw[hR1];rfl
 rw[<- hR1]
 have hln:=wQ (R:=R1) (i:=i) (c:=c) (by rw[hR1];exact h0) (by rw[hR1];exact hc)
 have hls:=I7 R1 i c
 rw[q1] at hln hls
 by_cases h34:c.toNat=34
 ·have h34I:((c.toNat:Int)=34)=True:=eq_true (by omega)
  have k1:=Qo (T:=T) (p:=p) R1 i (by rw[q1];exact hs) (by rw[q1];exact hlt) (by rw[hR1];exact h0)
  rw[Uf h34] at hln hls ⊢
  generalize vT R1 i=L at *
  simp only[rdB] at k1
  rw[hb1] at k1
  obtain⟨Z,hZ⟩:∃ Z,Z=dH L i:=⟨_,rfl⟩
  rw[<- hZ]
  refine aP.intro Q93.2 (by simp[Q93]) ?_
  simp(disch:=try exact dI) only[Q93,rdB,rdC,h0I,push_cast,seval]
  refine ae.lentK hrun [0] rfl qsZ qsZ ?_
  simp(disch:=try exact dI) only[hltI,hltI2,hc,aq,h34I,push_cast,seval]
  refine ae.lentK k1 [0] rfl qsZ qsZ ?_
  by_cases hL:L.e=0
  ·have hLI:(L.e=0)=True:=eq_true hL
   obtain⟨n1,n2⟩:=hln hL
   have n1I:(i:Int)<=(L.next:Int):=by omega
   have n2I:(L.next:Int)<=(R.s.length:Int):=by omega
   rw[lM hL] at hZ
   subst hZ
   simp(disch:=try exact dI) only[rdC,hLI,hls,n1I,n2I,push_cast,seval]
   exact au [] (by simp(disch:=try exact dI) only[rdB,rdC,tkP,hls,push_cast,seval])
  ·rw[vN hL] at hZ
   subst hZ
   simp(disch:=try exact dI) only[rdC,hL,push_cast,seval]
   exact au [] (by simp(disch:=try exact dI) only[rdB,rdC,tkP,push_cast,seval])
 have h34I:¬ (c.toNat:Int)=34:=by omega
 have hpre:=toE (T:=T) (p:=p) (C7 (R.s.drop i) [120,34])
 rw[C3 hc] at hpre
 have htk:List.drop i (List.take R.s.length R.s)=R.s.drop i:=by rw[List.take_length]
 by_cases h2:c.toNat=120/\R.s[i+1]? = some 34
 ·have h120I:((c.toNat:Int)=120)=True:=eq_true (by omega)
  have hc120:c=120:=UInt8.toNat_inj.1 (by simpa using h2.1)
  rw[show (decide (c=120)&&decide (R.s[i+1]? = some 34))=true by rw[decide_eq_true hc120,decide_eq_true h2.2];rfl] at hpre
  have k1:=J9 (T:=T) (p:=p) R1 i (by rw[q1];exact hs) (by rw[q1];exact (WH.1 h2.2).1) (by rw[hR1];exact h0)
  rw[Ue (by rw[q1];exact h2)] at hln hls ⊢
  generalize xm R1 i=L at *
  simp only[rdB] at k1
  rw[hb1] at k1
  obtain⟨Z,hZ⟩:∃ Z,Z=dH L i:=⟨_,rfl⟩
  rw[<- hZ]
  refine aP.intro Q93.2 (by simp[Q93]) ?_
  simp(disch:=try exact dI) only[Q93,rdB,rdC,h0I,push_cast,seval]
  refine ae.lentK hrun [0] rfl qsZ qsZ ?_
  simp(disch:=try exact dI) only[hltI,hltI2,hc,aq,h34I,h120I,push_cast,seval]
  refine ae.pure hpre (by simp(disch:=try exact dI) only[htk,push_cast,seval]) ?_
  refine zgZ ?_
  refine ae.lentK k1 [0] rfl qsZ qsZ ?_
  by_cases hL:L.e=0
  ·have hLI:(L.e=0)=True:=eq_true hL
   obtain⟨n1,n2⟩:=hln hL
   have n1I:(i:Int)<=(L.next:Int):=by omega
   have n2I:(L.next:Int)<=(R.s.length:Int):=by omega
   rw[lM hL] at hZ
   subst hZ
   simp(disch:=try exact dI) only[rdC,hLI,hls,n1I,n2I,push_cast,seval]
   exact au [] (by simp(disch:=try exact dI) only[rdB,rdC,tkP,hls,push_cast,seval])
  ·rw[vN hL] at hZ
   subst hZ
   simp(disch:=try exact dI) only[rdC,hL,push_cast,seval]
   exact au [] (by simp(disch:=try exact dI) only[rdB,rdC,tkP,push_cast,seval])
 rw[show (decide (c=120)&&decide (R.s[i+1]? = some 34))=false by
  by_cases hx:c=120
  ·rw[decide_eq_false (fun q=>h2 ⟨by rw[hx];rfl,q⟩),Bool.and_false]
  ·rw[decide_eq_false hx,Bool.false_and]] at hpre
 have h2':¬ (c.toNat=120/\R1.s[i+1]? = some 34):=by rw[q1];exact h2
 have hlet:=toE (T:=T) (p:=p) (r4 c)
 by_cases h3:aY c=true
 ·rw[h3] at hlet
  rw[Ud h34 h2' h3,lM (by rw[hR1];exact h0)]
  have hr2:=Cl (T:=T) (p:=p) R1 i 163 db Mn (by rw[q1];exact hs) (by rw[q1];omega)
  have e1:i<=bR db R1.s i:=kv
  have e2:bR db R1.s i<=R1.s.length:=fp (by rw[q1];omega)
  rw[q1] at e1 e2 hr2 ⊢
  generalize bR db R.s i=z at *
  have n1I:(i:Int)<=(z:Int):=by omega
  have n2I:(z:Int)<=(R.s.length:Int):=by omega
  simp only[rdB] at hr2
  rw[hb1] at hr2
  subst hR1
  refine aP.intro Q93.2 (by simp[Q93]) ?_
  simp(disch:=try exact dI) only[Q93,rdB,rdC,h0I,push_cast,seval]
  refine ae.lentK hrun [0] rfl qsZ qsZ ?_
  by_cases hx:c.toNat=120
  case' pos=>
   have h120I:((c.toNat:Int)=120)=True:=eq_true (by omega)
   simp(disch:=try exact dI) only[hltI,hltI2,hc,aq,h34I,h120I,push_cast,seval]
   refine ae.pure hpre (by simp(disch:=try exact dI) only[htk,push_cast,seval]) ?_
   refine zgZ ?_
   skip
  case' neg=>
   have h120I:¬ (c.toNat:Int)=120:=by omega
   simp(disch:=try exact dI) only[hltI,hltI2,hc,aq,h34I,h120I,push_cast,seval]
  all_goals
   refine ae.pure hlet rfl ?_
   refine zgZ ?_
   refine ae.lentK hr2 [0] rfl qsZ qsZ ?_
   simp(disch:=try exact dI) only[h0I,n1I,n2I,push_cast,seval]
   exact au [] (by simp(disch:=try exact dI) only[rdB,rdC,tkP,push_cast,seval])
 have h120I:¬ (c.toNat:Int)=120:=fun h=>h3 (by
  have hx:c.toNat=120:=by omega
  simp[aY,hx])
 rw[show aY c=false by simpa using h3] at hlet
 have hdig:=toE (T:=T) (p:=p) (gU c)
 by_cases h4:isD c=true\/c.toNat=45
 ·have k1:=Ri (T:=T) (p:=p) R1 i (by rw[q1];exact hs) (by rw[q1];exact hlt) (by rw[hR1];exact h0) (by rw[hR1];exact⟨rfl,rfl⟩)
  rw[Uc h34 h2' h3 h4] at hln hls ⊢
  generalize rC R1 i=L at *
  simp only[rdB] at k1
  rw[hb1] at k1
  have hfin:∀ (dg:Bool),dg=isD c->(dg=false->(c.toNat:Int)=45)->aP Tryz.prog (ci T p) 1 93 [.ptr 0 0] [rdB R] (.pv (tkP R.now)) [rdB (dH L i)]:=by
   intro dg hdg h45
   rw[<- hdg] at hdig
   obtain⟨Z,hZ⟩:∃ Z,Z=dH L i:=⟨_,rfl⟩
   rw[<- hZ]
   refine aP.intro Q93.2 (by simp[Q93]) ?_
   simp(disch:=try exact dI) only[Q93,rdB,rdC,h0I,push_cast,seval]
   refine ae.lentK hrun [0] rfl qsZ qsZ ?_
   simp(disch:=try exact dI) only[hltI,hltI2,hc,aq,h34I,h120I,push_cast,seval]
   refine ae.pure hlet rfl ?_
   refine zgZ ?_
   refine ae.pure hdig rfl ?_
   cases dg
   case' true=>simp(disch:=try exact dI) only[push_cast,seval]
   case' false=>
    have h45I:((c.toNat:Int)=45)=True:=eq_true (h45 rfl)
    simp(disch:=try exact dI) only[h45I,push_cast,seval]
   all_goals
    refine ae.lentK k1 [0] rfl qsZ qsZ ?_
    by_cases hL:L.e=0
    ·have hLI:(L.e=0)=True:=eq_true hL
     obtain⟨n1,n2⟩:=hln hL
     have n1I:(i:Int)<=(L.next:Int):=by omega
     have n2I:(L.next:Int)<=(R.s.length:Int):=by omega
     rw[lM hL] at hZ
     subst hZ
     simp(disch:=try exact dI) only[rdC,hLI,hls,n1I,n2I,push_cast,seval]
     exact au [] (by simp(disch:=try exact dI) only[rdB,rdC,tkP,hls,push_cast,seval])
    ·rw[vN hL] at hZ
     subst hZ
     simp(disch:=try exact dI) only[rdC,hL,push_cast,seval]
     exact au [] (by simp(disch:=try exact dI) only[rdB,rdC,tkP,push_cast,seval])
  refine hfin (isD c) rfl fun hd=>?_
  rcases h4 with h4 | h4
  ·rw[h4] at hd;cases hd
  ·omega
 have h45I:¬ (c.toNat:Int)=45:=fun h=>h4 (.inr (by omega))
 rw[show isD c=false by
  cases hh:isD c with
  | true=>exact absurd (.inl hh) h4
  | false=>rfl] at hdig
 have hdot:=toE (T:=T) (p:=p) (C7 (R.s.drop i) [46,46])
 rw[C3 hc] at hdot
 by_cases h5:c.toNat=46/\R.s[i+1]? = some 46
 ·have hc46:c=46:=UInt8.toNat_inj.1 (by simpa using h5.1)
  rw[show (decide (c=46)&&decide (R.s[i+1]? = some 46))=true by rw[decide_eq_true hc46,decide_eq_true h5.2];rfl] at hdot
  rw[Ry h34 h2' h3 h4 (by rw[q1];exact h5),lM (by rw[hR1];exact h0)]
  have hl2:i+1<R.s.length:=(WH.1 h5.2).1
  have n2I:(i:Int)+2<=(R.s.length:Int):=by omega
  have n1I:(i:Int)<=(i:Int)+2:=by omega
  have e2:((i:Int)+2).toNat=i+2:=by omega
  subst hR1
  refine aP.intro Q93.2 (by simp[Q93]) ?_
  simp(disch:=try exact dI) only[Q93,rdB,rdC,h0I,push_cast,seval]
  refine ae.lentK hrun [0] rfl qsZ qsZ ?_
  simp(disch:=try exact dI) only[hltI,hltI2,hc,aq,h34I,h120I,push_cast,seval]
  refine ae.pure hlet rfl ?_
  refine zgZ ?_
  refine ae.pure hdig rfl ?_
  simp(disch:=try exact dI) only[h45I,push_cast,seval]
  refine ae.pure hdot (by simp(disch:=try exact dI) only[htk,push_cast,seval]) ?_
  simp(disch:=try exact dI) only[h0I,n1I,n2I,e2,push_cast,seval]
  exact au [] (by simp(disch:=try exact dI) only[rdB,rdC,tkP,push_cast,seval];omega)
 rw[show (decide (c=46)&&decide (R.s[i+1]? = some 46))=false by
  by_cases hx:c=46
  ·rw[decide_eq_false (fun q=>h5 ⟨by rw[hx];rfl,q⟩),Bool.and_false]
  ·rw[decide_eq_false hx,Bool.false_and]] at hdot
 have h5':¬ (c.toNat=46/\R1.s[i+1]? = some 46):=by rw[q1];exact h5
 have hsy:=toE (T:=T) (p:=p) (lk [91,93,123,125,40,41,58,44,61,63,124] c)
 have hsf:=Oq c
 generalize fZ c [91,93,123,125,40,41,58,44,61,63,124] 0=q at *
 by_cases h6:vP c=true
 ·have hq:0<=q:=hsf.2 h6
  rw[Ub h34 h2' h3 h4 h5' h6,lM (by rw[hR1];exact h0)]
  have n2I:(i:Int)+1<=(R.s.length:Int):=by omega
  have n1I:(i:Int)<=(i:Int)+1:=by omega
  have e2:((i:Int)+1).toNat=i+1:=by omega
  subst hR1
  refine aP.intro Q93.2 (by simp[Q93]) ?_
  simp(disch:=try exact dI) only[Q93,rdB,rdC,h0I,push_cast,seval]
  refine ae.lentK hrun [0] rfl qsZ qsZ ?_
  simp(disch:=try exact dI) only[hltI,hltI2,hc,aq,h34I,h120I,push_cast,seval]
  refine ae.pure hlet rfl ?_
  refine zgZ ?_
  refine ae.pure hdig rfl ?_
  simp(disch:=try exact dI) only[h45I,push_cast,seval]
  refine ae.pure hdot (by simp(disch:=try exact dI) only[htk,push_cast,seval]) ?_
  refine zgZ ?_
  refine ae.pure hsy rfl ?_
  simp(disch:=try exact dI) only[hq,h0I,n1I,n2I,e2,push_cast,seval]
  exact au [] (by simp(disch:=try exact dI) only[rdB,rdC,tkP,push_cast,seval])
 ·have hq:¬ 0<=q:=fun h=>h6 (hsf.1 h)
  rw[Ua h34 h2' h3 h4 h5' h6]
  have hfa:=cD (T:=T) (p:=p) R1 i 13
  have hfe:=bY (R:=R1) (i:=i) (e:=13) (by decide)
  rw[vN hfe]
  simp only[rdB] at hfa
  rw[hb1] at hfa
  generalize ba R1 i 13=L at *
  refine aP.intro Q93.2 (by simp[Q93]) ?_
  simp(disch:=try exact dI) only[Q93,rdB,rdC,h0I,push_cast,seval]
  refine ae.lentK hrun [0] rfl qsZ qsZ ?_
  simp(disch:=try exact dI) only[hltI,hltI2,hc,aq,h34I,h120I,push_cast,seval]
  refine ae.pure hlet rfl ?_
  refine zgZ ?_
  refine ae.pure hdig rfl ?_
  simp(disch:=try exact dI) only[h45I,push_cast,seval]
  refine ae.pure hdot (by simp(disch:=try exact dI) only[htk,push_cast,seval]) ?_
  refine zgZ ?_
  refine ae.pure hsy rfl ?_
  simp(disch:=try exact dI) only[hq,push_cast,seval]
  refine ae.lentK hfa [0] rfl qsZ qsZ ?_
  refine zgZ ?_
  exact au [] (by simp(disch:=try exact dI) only[rdB,rdC,tkP,push_cast,seval])
end
theorem NF {R:Rd}{i:Nat}{e:Int}(he:e≠0):OkR (ba R i e):=fun h=>absurd h (bY he)
section
variable {T:Nat}{p:PV}
theorem gM (R:Rd)(t:List UInt8)(hR:OkR R):aP Tryz.prog (ci T p) 1 132 [.ptr 0 0,.pv (.str t)] [rdB R] (.pv (.bool (bE R t).1)) [rdB (bE R t).2]:=by
 have h1:=Am (T:=T) (p:=p) R t
 have h2:=bL (T:=T) (p:=p) R hR
 unfold bE
 simp only[rdB,rdC] at h1 h2
 cases hi:isT R t with
 | true=>
   rw[hi] at h1
   rw[if_pos rfl]
   generalize tkP R.now=was at *
   refine aP.intro P7.2 (by simp[P7]) ?_
   simp(disch:=try exact dI) only[P7,rdB,rdC,push_cast,seval]
   refine ae.lentK h1 [0] rfl qsZ qsZ ?_
   refine zgZ ?_
   refine ae.lentK h2 [0] rfl qsZ qsZ ?_
   refine zgZ ?_
   exact au [] (by simp(disch:=try exact dI) only[rdB,rdC,push_cast,seval])
 | false=>
   rw[hi] at h1
   rw[if_neg (by decide)]
   refine aP.intro P7.2 (by simp[P7]) ?_
   simp(disch:=try exact dI) only[P7,rdB,rdC,push_cast,seval]
   refine ae.lentK h1 [0] rfl qsZ qsZ ?_
   refine zgZ ?_
   exact au [] (by simp(disch:=try exact dI) only[rdB,rdC,push_cast,seval])
theorem aU (R:Rd)(t:List UInt8)(hR:OkR R):aP Tryz.prog (ci T p) 1 121 [.ptr 0 0,.pv (.str t)] [rdB R] (.pv (.tup [])) [rdB (aw R t)]:=by
 have h1:=gM (T:=T) (p:=p) R t hR
 unfold aw
 by_cases h0:R.e=0
 ·have h0I:(R.e=0)=True:=eq_true h0
  rw[if_pos h0]
  unfold bE at h1
  simp only[rdB,rdC] at h1
  cases hi:isT R t with
  | true=>
    rw[hi,if_pos rfl] at h1
    rw[if_pos rfl]
    simp only at h1
    refine aP.intro KE.2 (by simp[KE]) ?_
    simp(disch:=try exact dI) only[KE,rdB,rdC,h0I,push_cast,seval]
    refine ae.lentK h1 [0] rfl qsZ qsZ ?_
    refine zgZ ?_
    exact au [] (by simp(disch:=try exact dI) only[rdB,rdC,push_cast,seval])
  | false=>
    rw[hi,if_neg (by decide)] at h1
    rw[if_neg (by decide)]
    have hf:=cD (T:=T) (p:=p) R R.now.pos 13
    simp only[rdB,rdC] at h1 hf
    refine aP.intro KE.2 (by simp[KE]) ?_
    simp(disch:=try exact dI) only[KE,rdB,rdC,h0I,push_cast,seval]
    refine ae.lentK h1 [0] rfl qsZ qsZ ?_
    refine zgZ ?_
    refine ae.lentK hf [0] rfl qsZ qsZ ?_
    refine zgZ ?_
    exact au [] (by simp(disch:=try exact dI) only[rdB,rdC,push_cast,seval])
 ·rw[if_neg h0]
  refine aP.intro KE.2 (by simp[KE]) ?_
  simp(disch:=try exact dI) only[KE,rdB,rdC,h0,push_cast,seval]
  exact au [] (by simp(disch:=try exact dI) only[rdB,rdC,push_cast,seval])
theorem ku {R:Rd}{k:Int}(h:R.e=0)(hk:R.now.kind=k):bV R k=(R.now,bi R):=by
 have e:(if R.e=0/\R.now.kind≠k then ba R R.now.pos 13 else R)=R:=if_neg (fun q=>q.2 hk)
 unfold bV
 rw[e]
 exact if_pos h
theorem take_2 {R:Rd}{k:Int}(h:R.e=0)(hk:¬ R.now.kind=k):bV R k=({},ba R R.now.pos 13):=by
 have e:(if R.e=0/\R.now.kind≠k then ba R R.now.pos 13 else R)=ba R R.now.pos 13:=if_pos ⟨h,hk⟩
 unfold bV
 rw[e]
 exact if_neg (bY (by decide))
theorem take_3 {R:Rd}{k:Int}(h:¬ R.e=0):bV R k=({},R):=by
 have e:(if R.e=0/\R.now.kind≠k then ba R R.now.pos 13 else R)=R:=if_neg (fun q=>h q.1)
 unfold bV
 rw[e]
 exact if_neg h
theorem jJ (R:Rd)(k:Int)(hR:OkR R):aP Tryz.prog (ci T p) 1 134 [.ptr 0 0,.pv (.int .i64 k)] [rdB R] (.pv (tkP (bV R k).1)) [rdB (bV R k).2]:=by
 by_cases h0:R.e=0
 ·have h0I:(R.e=0)=True:=eq_true h0
  by_cases hk:R.now.kind=k
  ·rw[ku h0 hk]
   have hkI:(R.now.kind=k)=True:=eq_true hk
   have h2:=bL (T:=T) (p:=p) R hR
   simp only[rdB,rdC,tkP] at h2 ⊢
   refine aP.intro KA.2 (by simp[KA]) ?_
   simp(disch:=try exact dI) only[KA,h0I,hkI,push_cast,seval]
   refine ae.lentK h2 [0] rfl qsZ qsZ ?_
   refine zgZ ?_
   exact au [] qsZ
  ·rw[take_2 h0 hk]
   have hf:=cD (T:=T) (p:=p) R R.now.pos 13
   have he:=bY (R:=R) (i:=R.now.pos) (e:=13) (by decide)
   simp only[rdB,rdC,tkP] at hf ⊢
   refine aP.intro KA.2 (by simp[KA]) ?_
   simp(disch:=try exact dI) only[KA,h0I,hk,push_cast,seval]
   refine ae.lentK hf [0] rfl qsZ qsZ ?_
   simp(disch:=try exact dI) only[he,push_cast,seval]
   exact au [] qsZ
 ·rw[take_3 h0]
  simp only[rdB,rdC,tkP]
  refine aP.intro KA.2 (by simp[KA]) ?_
  simp(disch:=try exact dI) only[KA,h0,push_cast,seval]
  exact au [] qsZ
theorem DJ (R:Rd)(hR:OkR R):aP Tryz.prog (ci T p) 1 166 [.ptr 0 0] [rdB R] (.pv (.str (fX R).1)) [rdB (fX R).2]:=by
 have h1:=jJ (T:=T) (p:=p) R 1 hR
 unfold fX
 generalize bV R 1=Q at *
 obtain⟨t,L⟩:=Q
 simp only[rdB,rdC,tkP] at h1 ⊢
 by_cases h0:L.e=0
 ·have h0I:(L.e=0)=True:=eq_true h0
  have hn:=toE (T:=T) (p:=p) (mB t.text)
  cases hb:bz t.text with
  | true=>
    rw[hb] at hn
    rw[if_neg (fun q=>by cases q.2)]
    refine aP.intro Kx.2 (by simp[Kx]) ?_
    simp(disch:=try exact dI) only[Kx,push_cast,seval]
    refine ae.lentK h1 [0] rfl qsZ qsZ ?_
    simp(disch:=try exact dI) only[h0I,push_cast,seval]
    refine ae.pure hn rfl ?_
    refine zgZ ?_
    exact au [] qsZ
  | false=>
    rw[hb] at hn
    rw[if_pos ⟨h0,rfl⟩]
    have hf:=cD (T:=T) (p:=p) L t.pos 12
    simp only[rdB,rdC] at hf
    refine aP.intro Kx.2 (by simp[Kx]) ?_
    simp(disch:=try exact dI) only[Kx,push_cast,seval]
    refine ae.lentK h1 [0] rfl qsZ qsZ ?_
    simp(disch:=try exact dI) only[h0I,push_cast,seval]
    refine ae.pure hn rfl ?_
    refine zgZ ?_
    refine ae.lentK hf [0] rfl qsZ qsZ ?_
    refine zgZ ?_
    exact au [] qsZ
 ·rw[if_neg (fun q=>h0 q.1)]
  refine aP.intro Kx.2 (by simp[Kx]) ?_
  simp(disch:=try exact dI) only[Kx,push_cast,seval]
  refine ae.lentK h1 [0] rfl qsZ qsZ ?_
  simp(disch:=try exact dI) only[h0,push_cast,seval]
  exact au [] qsZ
theorem ji (R:Rd)(hR:OkR R)(g:Nat)(ps:List UInt8->Int×Int)(hg:∀ s,am Tryz.prog aC g [.str s] (.tup [.int .i64 (ps s).1,.int .i64 (ps s).2])):aP Tryz.prog (ci T p) 1 127 [.ptr 0 0,.pv (.clo g [] [])] [rdB R] (.pv (.int .i64 (aR R ps).1)) [rdB (aR R ps).2]:=by
 have h1:=jJ (T:=T) (p:=p) R 3 hR
 unfold aR
 generalize bV R 3=Q at *
 obtain⟨t,L⟩:=Q
 simp only[rdB,rdC,tkP] at h1 ⊢
 by_cases h0:L.e=0
 ·have h0I:(L.e=0)=True:=eq_true h0
  rw[if_pos h0]
  have hn:=toE (T:=T) (p:=p) (hg t.bytes)
  generalize ps t.bytes=q at *
  obtain⟨n,e⟩:=q
  simp only at hn ⊢
  by_cases he:e=0
  ·subst he
   rw[if_pos rfl]
   refine aP.intro KC.2 (by simp[KC]) ?_
   simp(disch:=try exact dI) only[KC,push_cast,seval]
   refine ae.lentK h1 [0] rfl qsZ qsZ ?_
   simp(disch:=try exact dI) only[h0I,push_cast,seval]
   refine ae.pure hn rfl ?_
   refine zgZ ?_
   exact au [] qsZ
  ·rw[if_neg he]
   have hf:=cD (T:=T) (p:=p) L t.pos e
   simp only[rdB,rdC] at hf
   refine aP.intro KC.2 (by simp[KC]) ?_
   simp(disch:=try exact dI) only[KC,push_cast,seval]
   refine ae.lentK h1 [0] rfl qsZ qsZ ?_
   simp(disch:=try exact dI) only[h0I,push_cast,seval]
   refine ae.pure hn rfl ?_
   simp(disch:=try exact dI) only[he,push_cast,seval]
   refine ae.lentK hf [0] rfl qsZ qsZ ?_
   refine zgZ ?_
   exact au [] qsZ
 ·rw[if_neg h0]
  refine aP.intro KC.2 (by simp[KC]) ?_
  simp(disch:=try exact dI) only[KC,push_cast,seval]
  refine ae.lentK h1 [0] rfl qsZ qsZ ?_
  simp(disch:=try exact dI) only[h0,push_cast,seval]
  exact au [] qsZ
theorem JF (R:Rd):aP Tryz.prog (ci T p) 1 47 [.ptr 0 0] [rdB R] (.pv (.tup [])) [rdB (ka R)]:=by
 unfold ka
 by_cases h0:R.e=0
 ·have h0I:(R.e=0)=True:=eq_true h0
  by_cases hk:R.now.kind=0
  ·have hkI:(R.now.kind=0)=True:=eq_true hk
   rw[if_neg (fun q=>q.2 hk)]
   refine aP.intro Q47.2 (by simp[Q47]) ?_
   simp(disch:=try exact dI) only[Q47,rdB,rdC,h0I,hkI,push_cast,seval]
   exact au [] (by simp(disch:=try exact dI) only[rdB,rdC,push_cast,seval])
  ·rw[if_pos ⟨h0,hk⟩]
   have hf:=cD (T:=T) (p:=p) R R.now.pos 13
   simp only[rdB,rdC] at hf
   refine aP.intro Q47.2 (by simp[Q47]) ?_
   simp(disch:=try exact dI) only[Q47,rdB,rdC,h0I,hk,push_cast,seval]
   refine ae.lentK hf [0] rfl qsZ qsZ ?_
   refine zgZ ?_
   exact au [] (by simp(disch:=try exact dI) only[rdB,rdC,push_cast,seval])
 ·rw[if_neg (fun q=>h0 q.1)]
  refine aP.intro Q47.2 (by simp[Q47]) ?_
  simp(disch:=try exact dI) only[Q47,rdB,rdC,h0,push_cast,seval]
  exact au [] (by simp(disch:=try exact dI) only[rdB,rdC,push_cast,seval])
def rd0 (s:List UInt8):Rd:=⟨s,0,{},0,0⟩
theorem lS {s:List UInt8}(h:65536<s.length):cL s=⟨s,0,{},5,0⟩:=by
 unfold cL
 simp only[if_pos h]
 rfl
theorem lR {s:List UInt8}(h:¬ 65536<s.length):cL s=bi (rd0 s):=by
 unfold cL
 simp only[if_neg h]
 rfl
theorem Dr {s:List UInt8}(h:s.length<=65536):OkR (rd0 s):=fun _=>⟨h,Nat.le_refl _,Nat.zero_le _,fun h=>absurd rfl h⟩
theorem wA (s:List UInt8):OkR (cL s):=by
 by_cases h:65536<s.length
 ·rw[lS h];intro h;exact absurd (show (5:Int)=0 from h) (by decide)
 ·rw[lR h];exact (Ma (Dr (by omega))).1
theorem MH (s:List UInt8):aP Tryz.prog (ci T p) 0 45 [.pv (.str s)] [] (.ptr 0 0) [rdB (cL s)]:=by
 by_cases h:65536<s.length
 ·have hI:(65536:Int)<(s.length:Int):=by omega
  rw[lS h]
  have hf:=cD (T:=T) (p:=p) (rd0 s) 0 5
  have ha:=bL (T:=T) (p:=p) ⟨s,0,{},5,0⟩ (fun h=>absurd (show (5:Int)=0 from h) (by decide))
  rw[A7 (by simp)] at ha
  rw[show ba (rd0 s) 0 5=⟨s,0,{},5,0⟩ from rfl] at hf
  simp only[rdB,rdC,rd0,tkP] at hf ha ⊢
  refine aP.intro Q45.2 (by simp[Q45]) ?_
  simp(disch:=try exact dI) only[Q45,hI,push_cast,seval]
  refine ae.lentK hf [0] rfl qsZ qsZ ?_
  refine zgZ ?_
  refine ae.lentK ha [0] rfl qsZ qsZ ?_
  refine zgZ ?_
  exact au [] qsZ
 ·have hI:¬ (65536:Int)<(s.length:Int):=by omega
  rw[lR h]
  have ha:=bL (T:=T) (p:=p) (rd0 s) (Dr (by omega))
  generalize bi (rd0 s)=L at *
  simp only[rdB,rdC,rd0,tkP] at ha ⊢
  refine aP.intro Q45.2 (by simp[Q45]) ?_
  simp(disch:=try exact dI) only[Q45,hI,push_cast,seval]
  refine ae.lentK ha [0] rfl qsZ qsZ ?_
  refine zgZ ?_
  exact au [] qsZ
end
theorem na:∀ (n:Nat) (v:Val),SizeOf.sizeOf v<n->v.ok->am Tryz.prog aC 212 [v.pv] v.pv:=by
 intro n
 induction n with
 | zero=>intro v h;omega
 | succ n ih=>
 intro v hn hv
 obtain⟨k,i,s,t,l,f⟩:=v
 rw[WC] at hv
 obtain⟨h1,h2,h3,h4,h5,h7,h6,h8⟩:=hv
 simp only[Val.mk.sizeOf_spec] at hn
 have hl:∀ x∈l,am Tryz.prog aC 212 [x.pv] x.pv:=fun x hx=>ih x (by have:=List.sizeOf_lt_of_mem hx;omega) (h7 x hx)
 have hf:∀ a v,Fld.mk a v∈f->am Tryz.prog aC 212 [v.pv] v.pv:=fun a v hx=>ih v (by have:=List.sizeOf_lt_of_mem hx;simp only[Fld.mk.sizeOf_spec] at this;omega) (by have:=h8 _ hx;rw[Wp] at this;exact this.2)
 refine am.intro Vg.2 (by simp[Vg]) ?_
 simp(disch:=try exact dI) only[Vg,WD,push_cast,seval]
 refine aG ([(3,5,25,6)]) (fun m:Nat=>[(14,.pv (.int .i64 (m:Int)))]) (fun m=>[(1,.cells 25 true [.pv (.int .i64 k),.pv (.int .i64 i),.pv (.int .i64 s),.pv (.str t),.olist 2 6 ((l.take m).map Val.pv),.pv .nils])]) (fun m=>m<=l.length) (fun m=>l.length - m) (0) ?_;intro e0 σ0 n0 h0;simp(disch:=try exact dI) only[push_cast,seval] at h0;obtain⟨rfl,rfl,rfl⟩:=h0;refine⟨?_,?_,?_⟩
 ·exact qsZ
 ·omega
 ·intro m hm
  by_cases hlt:m<l.length
  ·have hltI:(m:Int)<l.length:=by omega
   obtain⟨x,hx⟩:∃ x,l[m]? = some x:=⟨_,WE hlt⟩
   have hts:=aK hx
   have hlt2:(l.take m).length=m:=by rw[Xd];omega
   have hcall:=hl x (WK hx)
   obtain⟨w1,w2,w3,w4,w5,w6⟩:=x
   rw[WD] at hcall
   simp(disch:=try exact dI) only[hx,WD,push_cast,seval]
   refine ag hcall rfl ?_
   simp(disch:=try exact dI) only[hlt2,push_cast,seval]
   exact⟨m+1,bl (by simp(disch:=try exact dI) only[hts,XG,WD,push_cast,seval]),by omega,by omega⟩
  ·have hltI:¬ (m:Int)<l.length:=by omega
   have hle:l.take m=l:=Xm (by omega)
   simp(disch:=try exact dI) only[hle,push_cast,seval]
   refine aG ([(3,6,39,7)]) (fun m:Nat=>[(29,.pv (.int .i64 (m:Int)))]) (fun m=>[(1,.cells 25 true [.pv (.int .i64 k),.pv (.int .i64 i),.pv (.int .i64 s),.pv (.str t),.olist 2 6 (l.map Val.pv),.olist 3 7 ((f.take m).map Fld.pv)])]) (fun m=>m<=f.length) (fun m=>f.length - m) (0) ?_;intro e0 σ0 n0 h0;simp(disch:=try exact dI) only[push_cast,seval] at h0;obtain⟨rfl,rfl,rfl⟩:=h0;refine⟨?_,?_,?_⟩
   ·exact qsZ
   ·omega
   ·intro m hm
    by_cases hlt:m<f.length
    ·have hltI:(m:Int)<f.length:=by omega
     obtain⟨⟨a,v⟩,hx⟩:∃ x,f[m]? = some x:=⟨_,WE hlt⟩
     have hts:=aK hx
     have hlt2:(f.take m).length=m:=by rw[Xd];omega
     have hcall:=hf a v (WK hx)
     obtain⟨w1,w2,w3,w4,w5,w6⟩:=v
     rw[WD] at hcall
     simp(disch:=try exact dI) only[hx,Wq,WD,push_cast,seval]
     refine ag hcall rfl ?_
     simp(disch:=try exact dI) only[hlt2,push_cast,seval]
     exact⟨m+1,bl (by simp(disch:=try exact dI) only[hts,XG,Wq,WD,push_cast,seval]),by omega,by omega⟩
    ·have hltI:¬ (m:Int)<f.length:=by omega
     have hle:f.take m=f:=Xm (by omega)
     simp(disch:=try exact dI) only[hle,push_cast,seval]
theorem UJ (n sc:Int):am Tryz.prog aC 94 [.int .i64 n,.int .i64 sc] (Val.mk 3 n sc [] [] []).pv:=by
 refine am.intro Q94.2 (by simp[Q94]) ?_
 simp(disch:=try exact dI) only[Q94,WD,push_cast,seval]
theorem Uj (n:Int):am Tryz.prog aC 95 [.int .i64 n] (Val.mk 2 n 0 [] [] []).pv:=by
 refine am.intro Q95.2 (by simp[Q95]) ?_
 simp(disch:=try exact dI) only[Q95,WD,push_cast,seval]
theorem Qj (t:List UInt8):am Tryz.prog aC 96 [.str t] (Val.mk 4 0 0 t [] []).pv:=by
 refine am.intro Q96.2 (by simp[Q96]) ?_
 simp(disch:=try exact dI) only[Q96,WD,push_cast,seval]
theorem UT (t:List UInt8):am Tryz.prog aC 97 [.str t] (Val.mk 5 0 0 t [] []).pv:=by
 refine am.intro Q97.2 (by simp[Q97]) ?_
 simp(disch:=try exact dI) only[Q97,WD,push_cast,seval]
theorem F0 (b:Bool):am Tryz.prog aC 170 [.bool b] (Val.mk 1 (if b=true then 1 else 0) 0 [] [] []).pv:=by
 refine am.intro Ty.2 (by simp[Ty]) ?_
 cases b with
 | true=>
   rw[if_pos rfl]
   simp(disch:=try exact dI) only[Ty,WD,push_cast,seval]
 | false=>
   rw[if_neg (by decide)]
   simp(disch:=try exact dI) only[Ty,WD,push_cast,seval]
theorem OY (n:Int):am Tryz.prog aC 171 [.int .i64 n] (Val.mk 6 n 0 [] [] []).pv:=by
 refine am.intro Vs.2 (by simp[Vs]) ?_
 simp(disch:=try exact dI) only[Vs,WD,push_cast,seval]
theorem MB (n:Int):am Tryz.prog aC 172 [.int .i64 n] (Val.mk 7 n 0 [] [] []).pv:=by
 refine am.intro Vr.2 (by simp[Vr]) ?_
 simp(disch:=try exact dI) only[Vr,WD,push_cast,seval]
theorem yz (t:List UInt8)(v:Val)(ht:t.length<=140737488351232)(hv:v.ok):am Tryz.prog aC 169 [.str t,v.pv] (Val.mk 10 0 0 t [v] []).pv:=by
 have hc:=na _ (Val.mk 10 0 0 t [v] []) (Nat.lt_succ_self _) (by
  rw[WC]
  refine⟨by unfold I64;omega,by unfold I64;omega,by unfold I64;omega,ht,by simp,fun x hx=>by simp at hx;rw[hx];exact hv,by simp,fun x hx=>by simp at hx⟩)
 obtain⟨k,n,s,tt,l,fs⟩:=v
 simp only[WD,List.map_cons,List.map_nil] at hc ⊢
 refine am.intro Vt.2 (by simp[Vt]) ?_
 simp(disch:=try exact dI) only[Vt,push_cast,seval]
 refine ae.pureN hc rfl (by repeat' constructor) ?_
 exact qsZ
