/- A part. -/
import Derived.Test.YtamoeblcphjbaaaGreatDoorTyLP4
set_option linter.unusedVariables false
set_option linter.unusedSimpArgs false
set_option maxHeartbeats 16000000
set_option maxRecDepth 100000
open List renaming length_append->WF,length_singleton->Xi,take_length->WV,take_of_length_le->Xm,getElem?_eq_getElem->WE,length_drop->Xh,length_take->Xd,getElem?_eq_none->Xu,length_cons->WG,getElem?_eq_some_iff->WH
open UInt8 renaming toNat_inj->XV
namespace Go.Proofs.YtamoeblcphjbaaaGreatDoor
open Go Go.Ab
attribute [local irreducible] vc
theorem EA (s:List UInt8)(hs:s.length<=100000):am Tryz.prog aC 261 [.str s,.str [100]] (.bool (decide (s.getLast? = some 100))):=by
 refine am.intro SZ.2 (by simp[SZ]) ?_
 rcases List.eq_nil_or_concat s with rfl | ⟨l,c,rfl⟩
 ·simp(disch:=try exact dI) only[SZ,push_cast,seval]
  simp
 ·rw[List.concat_eq_append] at hs ⊢
  rw[WF,Xi] at hs
  have h1:(1:Int)<=(l.length:Int)+1:=by omega
  have e1:(l.length:Int)+1 - 1=(l.length:Int):=by omega
  by_cases hc:c=100
  ·subst hc
   rw[show decide ((l++[(100:UInt8)]).getLast? = some 100)=true by simp]
   simp(disch:=try exact dI) only[SZ,WF,h1,e1,List.drop_left,WV,List.take_append_length,push_cast,seval]
   rw[Xm (by simp),List.drop_left];rfl
  ·rw[show decide ((l++[c]).getLast? = some 100)=false by simp[hc]]
   simp(disch:=try exact dI) only[SZ,WF,h1,e1,List.drop_left,WV,hc,push_cast,seval]
   rw[Xm (by simp),List.drop_left];simp[hc]
theorem GS (s:List UInt8)(hs:s.length<=100000):am Tryz.prog aC 236 [.str s,.str [100]] (.str (fK s)):=by
 have h:=EA s hs
 refine am.intro Tp.2 (by simp[Tp]) ?_
 unfold fK
 by_cases hc:s.getLast? = some 100
 ·rw[if_pos hc]
  rw[decide_eq_true hc] at h
  rcases List.eq_nil_or_concat s with rfl | ⟨l,c,rfl⟩
  ·cases hc
  ·have e1:(l.length:Int)+1 - 1=(l.length:Int):=by omega
   rw[List.concat_eq_append] at h hs ⊢
   rw[WF,Xi] at hs
   rw[List.dropLast_concat]
   simp(disch:=try exact dI) only[Tp,push_cast,seval]
   refine ae.pure h rfl ?_
   simp(disch:=try exact dI) only[WF,e1,List.take_left,push_cast,seval]
 ·rw[if_neg hc]
  rw[decide_eq_false hc] at h
  simp(disch:=try exact dI) only[Tp,push_cast,seval]
  refine ae.pure h rfl ?_
  exact qsZ
theorem fk (s:List UInt8)(hs:s.length<=100000):am Tryz.prog aC 209 [.str s,.str [100]] (.str (fK s)):=by
 have h:=GS s hs
 generalize fK s=q at *
 refine am.intro Vh.2 (by simp[Vh]) ?_
 simp(disch:=try exact dI) only[Vh,push_cast,seval]
 refine ae.pure h rfl ?_
 exact qsZ
section
variable {T:Nat}{p:PV}
theorem Cl (R:Rd)(i g:Nat)(q:UInt8->Bool)(hg:∀ c:UInt8,am Tryz.prog aC g [.int .u8 (c.toNat:Int)] (.bool (q c)))(hs:R.s.length<=65536)(hi:i<=R.s.length) :
  aP Tryz.prog (ci T p) 1 157 [.ptr 0 0,.pv (.int .i64 (i:Int)),.pv (.clo g [] [])] [rdB R] (.pv (.int .i64 (bR q R.s i:Int))) [rdB R]:=QJ R i g q (fun c=>toE (hg c)) hs hi
def Bd (R:Rd)(i:Nat)(w:Nat×Bool×Bool)(q:(Int×Nat)×Int):Rd:=
 let R1:={ R with next:=w.1,now:={ R.now with dec:=w.2.1,exa:=w.2.2 } }
 let R2:=if q.2=0 then R1 else ba R1 i q.2
 { R2 with now:={ R2.now with kind:=2,num:=q.1.1,sc:=q.1.2 } }
theorem fT {R:Rd}{i a:Nat}{x y:Bool}{n:Int}{sc:Nat}:Bd R i (a,x,y) ((n,sc),0) = { R with next:=a,now:={ R.now with dec:=x,exa:=y,kind:=2,num:=n,sc:=sc } }:=rfl
theorem ik {R:Rd}{i a:Nat}{x y:Bool}{n e:Int}{sc:Nat}(he:¬ e=0):Bd R i (a,x,y) ((n,sc),e) = { ba { R with next:=a,now:={ R.now with dec:=x,exa:=y } } i e with now:={ (ba { R with next:=a,now:={ R.now with dec:=x,exa:=y } } i e).now with kind:=2,num:=n,sc:=sc } }:=by
 unfold Bd
 simp only[if_neg he]
theorem rB {R:Rd}{i a:Nat}(ha:(if R.s[i]? = some 45 then i+1 else i)=a)(hz:bR isD R.s a=a):rC R i=ba R i 13:=by
 unfold rC
 simp only[ha]
 exact if_pos hz
theorem fS {R:Rd}{i a z:Nat}{w:Nat×Bool×Bool}(ha:(if R.s[i]? = some 45 then i+1 else i)=a)(hz:bR isD R.s a=z)(h:¬ z=a)(hw:ub R.s z=w):rC R i=Bd R i w (bC (fK ((R.s.take w.1).drop i))):=by
 unfold rC
 simp only[ha,hz,hw]
 exact if_neg h
theorem Dw {s:List UInt8}{z:Nat}(h:s[z]? = some 46/\(s[z+1]?.any isD)=true):ub s z=(bR isD s (z+1),true,false):=if_pos h
theorem wG {s:List UInt8}{z:Nat}(h:¬ (s[z]? = some 46/\(s[z+1]?.any isD)=true))(h2:s[z]? = some 100):ub s z=(z+1,true,true):=(if_neg h).trans (if_pos h2)
theorem ol {s:List UInt8}{z:Nat}(h:¬ (s[z]? = some 46/\(s[z+1]?.any isD)=true))(h2:¬ s[z]? = some 100):ub s z=(z,false,false):=(if_neg h).trans (if_neg h2)
theorem Ri (R:Rd)(i:Nat)(hs:R.s.length<=65536)(hi:i<R.s.length)(hE:R.e=0)(hd:R.now.dec=false/\R.now.exa=false):aP Tryz.prog (ci T p) 1 165 [.ptr 0 0,.pv (.int .i64 (i:Int))] [rdB R] (.pv (.tup [])) [rdB (rC R i)]:=by
 have hf:=fun (R:Rd) i e=>cD (T:=T) (p:=p) R i e
 have hdg:=fun c=>toE (T:=T) (p:=p) (gU c)
 obtain⟨hd1,hd2⟩:=hd
 obtain⟨c,hc⟩:∃ c,R.s[i]? = some c:=⟨_,WE hi⟩
 by_cases h:(c.toNat:Int)=45
 case' pos=>
  have hc45:c=45:=XV.1 (by simpa using (show c.toNat=45 by omega))
  obtain⟨a,ha0⟩:∃ a,a=i+1:=⟨_,rfl⟩
  have ha:(if R.s[i]? = some 45 then i+1 else i)=a:=by rw[hc,hc45,if_pos rfl,ha0]
  have h45:(i:Int)+1=(a:Int):=by omega
  have hr:=Cl (T:=T) (p:=p) R a 164 isD gU hs (by omega)
  obtain⟨z,hz⟩:∃ z,bR isD R.s a=z:=⟨_,rfl⟩
  have hzl:z<=R.s.length:=by rw[<- hz];exact fp (by omega)
  have haz:a<=z:=by rw[<- hz];exact kv
  rw[hz] at hr
  have hr0:=hr
  simp only[rdB,rdC] at hr0
  by_cases hza:z=a
  ·rw[rB ha (hz.trans hza)]
   rw[hza] at hr0
   have hfa:=hf R i 13
   simp only[rdB,rdC] at hfa
   refine aP.intro Bk.2 (by simp[Bk]) ?_
   simp(disch:=try exact dI) only[Bk,rdB,rdC,hc,aq,h,h45,push_cast,seval]
   refine ae.lentK hr0 [0] rfl (by simp(disch:=try exact dI) only[h,h45,push_cast,seval]) qsZ ?_
   refine zgZ ?_
   refine ae.lentK hfa [0] rfl qsZ qsZ ?_
   refine zgZ ?_
   exact au [] (by simp(disch:=try exact dI) only[rdB,rdC,push_cast,seval])
  have hzaI:¬ (z:Int)=(a:Int):=by omega
  have hdotF:∀ b:UInt8,R.s[z]? = some b->b≠46->¬ (R.s[z]? = some 46/\(R.s[z+1]?.any isD)=true):=fun b h h2 q=>h2 (Option.some.inj (h.symm.trans q.1))
  refine aP.intro Bk.2 (by simp[Bk]) ?_
  simp(disch:=try exact dI) only[Bk,rdB,rdC,hc,aq,h,h45,push_cast,seval]
  refine ae.lentK hr0 [0] rfl (by simp(disch:=try exact dI) only[h,h45,push_cast,seval]) qsZ ?_
  simp(disch:=try exact dI) only[hzaI,push_cast,seval]
 case' neg=>
  have ha:(if R.s[i]? = some 45 then i+1 else i)=i:=by
   rw[hc,if_neg (fun q=>h (by rw[Option.some.inj q];rfl))]
  have hr:=Cl (T:=T) (p:=p) R i 164 isD gU hs (by omega)
  obtain⟨z,hz⟩:∃ z,bR isD R.s i=z:=⟨_,rfl⟩
  have hzl:z<=R.s.length:=by rw[<- hz];exact fp (by omega)
  have haz:i<=z:=by rw[<- hz];exact kv
  rw[hz] at hr
  have hr0:=hr
  simp only[rdB,rdC] at hr0
  by_cases hza:z=i
  ·rw[rB ha (hz.trans hza)]
   rw[hza] at hr0
   have hfa:=hf R i 13
   simp only[rdB,rdC] at hfa
   refine aP.intro Bk.2 (by simp[Bk]) ?_
   simp(disch:=try exact dI) only[Bk,rdB,rdC,hc,aq,h,push_cast,seval]
   refine ae.lentK hr0 [0] rfl (by simp(disch:=try exact dI) only[h,push_cast,seval]) qsZ ?_
   refine zgZ ?_
   refine ae.lentK hfa [0] rfl qsZ qsZ ?_
   refine zgZ ?_
   exact au [] (by simp(disch:=try exact dI) only[rdB,rdC,push_cast,seval])
  have hzaI:¬ (z:Int)=(i:Int):=by omega
  have hdotF:∀ b:UInt8,R.s[z]? = some b->b≠46->¬ (R.s[z]? = some 46/\(R.s[z+1]?.any isD)=true):=fun b h h2 q=>h2 (Option.some.inj (h.symm.trans q.1))
  refine aP.intro Bk.2 (by simp[Bk]) ?_
  simp(disch:=try exact dI) only[Bk,rdB,rdC,hc,aq,h,push_cast,seval]
  refine ae.lentK hr0 [0] rfl (by simp(disch:=try exact dI) only[h,push_cast,seval]) qsZ ?_
  simp(disch:=try exact dI) only[hzaI,push_cast,seval]
 all_goals
  by_cases hzl1:z+1<R.s.length
  ·have hzl1I:(z:Int)+1<(R.s.length:Int):=by omega
   have hzl0I:(z:Int)<(R.s.length:Int):=by omega
   obtain⟨b,hb⟩:∃ b,R.s[z]? = some b:=⟨_,WE (by omega)⟩
   obtain⟨b2,hb2⟩:∃ b2,R.s[z+1]? = some b2:=⟨_,WE hzl1⟩
   have hd64:=hdg b2
   have hz1n:((z:Int)+1).toNat=z+1:=by omega
   by_cases h46:(b.toNat:Int)=46
   ·have hb46:b=46:=XV.1 (by simpa using (show b.toNat=46 by omega))
    cases hD:isD b2 with
    | true=>
      rw[hD] at hd64
      rw[fS ha hz hza (Dw ⟨by rw[hb,hb46],by rw[hb2];exact hD⟩)]
      have hr2:=Cl (T:=T) (p:=p) { R with next:=z } (z+1) 164 isD gU hs (by simp only;omega)
      have hw1:z+1<=bR isD R.s (z+1):=kv
      have hw2:bR isD R.s (z+1)<=R.s.length:=fp (by omega)
      simp only[rdB,rdC] at hr2
      generalize bR isD R.s (z+1)=w at *
      simp(disch:=try exact dI) only[hzl1I,hb,aq,h46,hz1n,hb2,push_cast,seval]
      refine ae.pure hd64 rfl ?_
      refine zgZ ?_
      refine ae.lentK hr2 [0] rfl qsZ qsZ ?_
      have htr:=toE (T:=T) (p:=p) (fk ((R.s.take (w)).drop i) (by rw[Xh,Xd];omega))
      have hpa:=fu (T:=T) (p:=p) (fK ((R.s.take (w)).drop i))
      have hle:(i:Int)<=((w:Nat):Int):=by omega
      have hle2:((w:Nat):Int)<=(R.s.length:Int):=by omega
      have hleN:w<=R.s.length:=by omega
      generalize hQ:bC (fK ((R.s.take (w)).drop i))=Q at *
      generalize fK ((R.s.take (w)).drop i)=cq at *
      obtain⟨⟨n,sc⟩,e⟩:=Q
      simp only at hpa
      by_cases he:e=0
      ·subst he
       rw[fT]
       refine zgZ ?_
       refine ag htr rfl ?_
       refine zgZ ?_
       refine ag hpa rfl ?_
       refine zgZ ?_
       exact au [] (by simp(disch:=try exact dI) only[rdB,rdC,hd1,hd2,push_cast,seval])
      ·rw[ik he]
       have hfa:=hf { R with next:=w,now:={ R.now with dec:=true,exa:=false } } i e
       simp only[rdB,rdC] at hfa
       refine zgZ ?_
       refine ag htr rfl ?_
       refine zgZ ?_
       refine ag hpa rfl ?_
       simp(disch:=try exact dI) only[he,push_cast,seval]
       refine ae.lentK hfa [0] rfl qsZ (by simp(disch:=try exact dI) only[hd1,hd2,push_cast,seval]) ?_
       refine zgZ ?_
       exact au [] (by simp(disch:=try exact dI) only[rdB,rdC,hd1,hd2,push_cast,seval])
    | false=>
      rw[hD] at hd64
      have hno:¬ (R.s[z]? = some 46/\(R.s[z+1]?.any isD)=true):=fun q=>by
       have:=q.2
       rw[hb2] at this
       exact absurd (hD.symm.trans this) (by decide)
      rw[fS ha hz hza (ol hno (by rw[hb,hb46];decide))]
      simp(disch:=try exact dI) only[hzl1I,hb,aq,h46,hz1n,hb2,push_cast,seval]
      refine ae.pure hd64 rfl ?_
      have h100:¬ (b.toNat:Int)=100:=by omega
      have htr:=toE (T:=T) (p:=p) (fk ((R.s.take (z)).drop i) (by rw[Xh,Xd];omega))
      have hpa:=fu (T:=T) (p:=p) (fK ((R.s.take (z)).drop i))
      have hle:(i:Int)<=((z:Nat):Int):=by omega
      have hle2:((z:Nat):Int)<=(R.s.length:Int):=by omega
      have hleN:z<=R.s.length:=by omega
      generalize hQ:bC (fK ((R.s.take (z)).drop i))=Q at *
      generalize fK ((R.s.take (z)).drop i)=cq at *
      obtain⟨⟨n,sc⟩,e⟩:=Q
      simp only at hpa
      by_cases he:e=0
      ·subst he
       rw[fT]
       simp(disch:=try exact dI) only[hb,aq,h100,hzl0I,push_cast,seval]
       refine ag htr rfl ?_
       refine zgZ ?_
       refine ag hpa rfl ?_
       refine zgZ ?_
       exact au [] (by simp(disch:=try exact dI) only[rdB,rdC,hd1,hd2,push_cast,seval])
      ·rw[ik he]
       have hfa:=hf { R with next:=z,now:={ R.now with dec:=false,exa:=false } } i e
       simp only[rdB,rdC] at hfa
       simp(disch:=try exact dI) only[hb,aq,h100,hzl0I,push_cast,seval]
       refine ag htr rfl ?_
       refine zgZ ?_
       refine ag hpa rfl ?_
       simp(disch:=try exact dI) only[he,push_cast,seval]
       refine ae.lentK hfa [0] rfl qsZ (by simp(disch:=try exact dI) only[hd1,hd2,push_cast,seval]) ?_
       refine zgZ ?_
       exact au [] (by simp(disch:=try exact dI) only[rdB,rdC,hd1,hd2,push_cast,seval])
   ·have hno:=hdotF b hb (fun q=>h46 (by rw[q];rfl))
    by_cases h100:(b.toNat:Int)=100
    ·have hb100:b=100:=XV.1 (by simpa using (show b.toNat=100 by omega))
     rw[fS ha hz hza (wG hno (by rw[hb,hb100]))]
     have htr:=toE (T:=T) (p:=p) (fk ((R.s.take (z+1)).drop i) (by rw[Xh,Xd];omega))
     have hpa:=fu (T:=T) (p:=p) (fK ((R.s.take (z+1)).drop i))
     have hle:(i:Int)<=((z+1:Nat):Int):=by omega
     have hle2:((z+1:Nat):Int)<=(R.s.length:Int):=by omega
     have hleN:z+1<=R.s.length:=by omega
     generalize hQ:bC (fK ((R.s.take (z+1)).drop i))=Q at *
     generalize fK ((R.s.take (z+1)).drop i)=cq at *
     obtain⟨⟨n,sc⟩,e⟩:=Q
     simp only at hpa
     by_cases he:e=0
     ·subst he
      rw[fT]
      simp(disch:=try exact dI) only[hzl1I,hzl0I,hb,aq,h46,h100,push_cast,seval]
      refine ag htr rfl ?_
      refine zgZ ?_
      refine ag hpa rfl ?_
      refine zgZ ?_
      exact au [] (by simp(disch:=try exact dI) only[rdB,rdC,hd1,hd2,push_cast,seval])
     ·rw[ik he]
      have hfa:=hf { R with next:=z+1,now:={ R.now with dec:=true,exa:=true } } i e
      simp only[rdB,rdC] at hfa
      simp(disch:=try exact dI) only[hzl1I,hzl0I,hb,aq,h46,h100,push_cast,seval]
      refine ag htr rfl ?_
      refine zgZ ?_
      refine ag hpa rfl ?_
      simp(disch:=try exact dI) only[he,push_cast,seval]
      refine ae.lentK hfa [0] rfl qsZ (by simp(disch:=try exact dI) only[hd1,hd2,push_cast,seval]) ?_
      refine zgZ ?_
      exact au [] (by simp(disch:=try exact dI) only[rdB,rdC,hd1,hd2,push_cast,seval])
    ·rw[fS ha hz hza (ol hno (by rw[hb];intro q;exact h100 (by rw[Option.some.inj q];rfl)))]
     have htr:=toE (T:=T) (p:=p) (fk ((R.s.take (z)).drop i) (by rw[Xh,Xd];omega))
     have hpa:=fu (T:=T) (p:=p) (fK ((R.s.take (z)).drop i))
     have hle:(i:Int)<=((z:Nat):Int):=by omega
     have hle2:((z:Nat):Int)<=(R.s.length:Int):=by omega
     have hleN:z<=R.s.length:=by omega
     generalize hQ:bC (fK ((R.s.take (z)).drop i))=Q at *
     generalize fK ((R.s.take (z)).drop i)=cq at *
     obtain⟨⟨n,sc⟩,e⟩:=Q
     simp only at hpa
     by_cases he:e=0
     ·subst he
      rw[fT]
      simp(disch:=try exact dI) only[hzl1I,hzl0I,hb,aq,h46,h100,push_cast,seval]
      refine ag htr rfl ?_
      refine zgZ ?_
      refine ag hpa rfl ?_
      refine zgZ ?_
      exact au [] (by simp(disch:=try exact dI) only[rdB,rdC,hd1,hd2,push_cast,seval])
     ·rw[ik he]
      have hfa:=hf { R with next:=z,now:={ R.now with dec:=false,exa:=false } } i e
      simp only[rdB,rdC] at hfa
      simp(disch:=try exact dI) only[hzl1I,hzl0I,hb,aq,h46,h100,push_cast,seval]
      refine ag htr rfl ?_
      refine zgZ ?_
      refine ag hpa rfl ?_
      simp(disch:=try exact dI) only[he,push_cast,seval]
      refine ae.lentK hfa [0] rfl qsZ (by simp(disch:=try exact dI) only[hd1,hd2,push_cast,seval]) ?_
      refine zgZ ?_
      exact au [] (by simp(disch:=try exact dI) only[rdB,rdC,hd1,hd2,push_cast,seval])
  ·have hzl1I:¬ (z:Int)+1<(R.s.length:Int):=by omega
   have hno:¬ (R.s[z]? = some 46/\(R.s[z+1]?.any isD)=true):=fun q=>by
    have:=q.2
    rw[Xu (by omega)] at this
    cases this
   by_cases hzl0:z<R.s.length
   ·have hzl0I:(z:Int)<(R.s.length:Int):=by omega
    obtain⟨b,hb⟩:∃ b,R.s[z]? = some b:=⟨_,WE hzl0⟩
    by_cases h100:(b.toNat:Int)=100
    ·have hb100:b=100:=XV.1 (by simpa using (show b.toNat=100 by omega))
     rw[fS ha hz hza (wG hno (by rw[hb,hb100]))]
     have htr:=toE (T:=T) (p:=p) (fk ((R.s.take (z+1)).drop i) (by rw[Xh,Xd];omega))
     have hpa:=fu (T:=T) (p:=p) (fK ((R.s.take (z+1)).drop i))
     have hle:(i:Int)<=((z+1:Nat):Int):=by omega
     have hle2:((z+1:Nat):Int)<=(R.s.length:Int):=by omega
     have hleN:z+1<=R.s.length:=by omega
     generalize hQ:bC (fK ((R.s.take (z+1)).drop i))=Q at *
     generalize fK ((R.s.take (z+1)).drop i)=cq at *
     obtain⟨⟨n,sc⟩,e⟩:=Q
     simp only at hpa
     by_cases he:e=0
     ·subst he
      rw[fT]
      simp(disch:=try exact dI) only[hzl1I,hzl0I,hb,aq,h100,push_cast,seval]
      refine ag htr rfl ?_
      refine zgZ ?_
      refine ag hpa rfl ?_
      refine zgZ ?_
      exact au [] (by simp(disch:=try exact dI) only[rdB,rdC,hd1,hd2,push_cast,seval])
     ·rw[ik he]
      have hfa:=hf { R with next:=z+1,now:={ R.now with dec:=true,exa:=true } } i e
      simp only[rdB,rdC] at hfa
      simp(disch:=try exact dI) only[hzl1I,hzl0I,hb,aq,h100,push_cast,seval]
      refine ag htr rfl ?_
      refine zgZ ?_
      refine ag hpa rfl ?_
      simp(disch:=try exact dI) only[he,push_cast,seval]
      refine ae.lentK hfa [0] rfl qsZ (by simp(disch:=try exact dI) only[hd1,hd2,push_cast,seval]) ?_
      refine zgZ ?_
      exact au [] (by simp(disch:=try exact dI) only[rdB,rdC,hd1,hd2,push_cast,seval])
    ·rw[fS ha hz hza (ol hno (by rw[hb];intro q;exact h100 (by rw[Option.some.inj q];rfl)))]
     have htr:=toE (T:=T) (p:=p) (fk ((R.s.take (z)).drop i) (by rw[Xh,Xd];omega))
     have hpa:=fu (T:=T) (p:=p) (fK ((R.s.take (z)).drop i))
     have hle:(i:Int)<=((z:Nat):Int):=by omega
     have hle2:((z:Nat):Int)<=(R.s.length:Int):=by omega
     have hleN:z<=R.s.length:=by omega
     generalize hQ:bC (fK ((R.s.take (z)).drop i))=Q at *
     generalize fK ((R.s.take (z)).drop i)=cq at *
     obtain⟨⟨n,sc⟩,e⟩:=Q
     simp only at hpa
     by_cases he:e=0
     ·subst he
      rw[fT]
      simp(disch:=try exact dI) only[hzl1I,hzl0I,hb,aq,h100,push_cast,seval]
      refine ag htr rfl ?_
      refine zgZ ?_
      refine ag hpa rfl ?_
      refine zgZ ?_
      exact au [] (by simp(disch:=try exact dI) only[rdB,rdC,hd1,hd2,push_cast,seval])
     ·rw[ik he]
      have hfa:=hf { R with next:=z,now:={ R.now with dec:=false,exa:=false } } i e
      simp only[rdB,rdC] at hfa
      simp(disch:=try exact dI) only[hzl1I,hzl0I,hb,aq,h100,push_cast,seval]
      refine ag htr rfl ?_
      refine zgZ ?_
      refine ag hpa rfl ?_
      simp(disch:=try exact dI) only[he,push_cast,seval]
      refine ae.lentK hfa [0] rfl qsZ (by simp(disch:=try exact dI) only[hd1,hd2,push_cast,seval]) ?_
      refine zgZ ?_
      exact au [] (by simp(disch:=try exact dI) only[rdB,rdC,hd1,hd2,push_cast,seval])
   ·have hzl0I:¬ (z:Int)<(R.s.length:Int):=by omega
    rw[fS ha hz hza (ol hno (by rw[Xu (by omega)];intro q;cases q))]
    have htr:=toE (T:=T) (p:=p) (fk ((R.s.take (z)).drop i) (by rw[Xh,Xd];omega))
    have hpa:=fu (T:=T) (p:=p) (fK ((R.s.take (z)).drop i))
    have hle:(i:Int)<=((z:Nat):Int):=by omega
    have hle2:((z:Nat):Int)<=(R.s.length:Int):=by omega
    have hleN:z<=R.s.length:=by omega
    generalize hQ:bC (fK ((R.s.take (z)).drop i))=Q at *
    generalize fK ((R.s.take (z)).drop i)=cq at *
    obtain⟨⟨n,sc⟩,e⟩:=Q
    simp only at hpa
    by_cases he:e=0
    ·subst he
     rw[fT]
     simp(disch:=try exact dI) only[hzl1I,hzl0I,push_cast,seval]
     refine ag htr rfl ?_
     refine zgZ ?_
     refine ag hpa rfl ?_
     refine zgZ ?_
     exact au [] (by simp(disch:=try exact dI) only[rdB,rdC,hd1,hd2,push_cast,seval])
    ·rw[ik he]
     have hfa:=hf { R with next:=z,now:={ R.now with dec:=false,exa:=false } } i e
     simp only[rdB,rdC] at hfa
     simp(disch:=try exact dI) only[hzl1I,hzl0I,push_cast,seval]
     refine ag htr rfl ?_
     refine zgZ ?_
     refine ag hpa rfl ?_
     simp(disch:=try exact dI) only[he,push_cast,seval]
     refine ae.lentK hfa [0] rfl qsZ (by simp(disch:=try exact dI) only[hd1,hd2,push_cast,seval]) ?_
     refine zgZ ?_
     exact au [] (by simp(disch:=try exact dI) only[rdB,rdC,hd1,hd2,push_cast,seval])
end
theorem mX (R:Rd)(i:Nat)(e:Int):(ba R i e).s=R.s:=by unfold ba;split<;>rfl
theorem cY (R:Rd)(i:Nat)(e:Int):(ba R i e).now=R.now:=by unfold ba;split<;>rfl
theorem EZ (R:Rd)(i:Nat)(e:Int):(ba R i e).next=R.next:=by unfold ba;split<;>rfl
theorem bY {R:Rd}{i:Nat}{e:Int}(he:e≠0):(ba R i e).e≠0:=by
 unfold ba;split
 ·exact he
 ·assumption
theorem lO:∀ (f:Nat) (l:List UInt8) (i:Nat) (o:List UInt8) {o':List UInt8} {j:Nat},kK f l i o = .done o' j->i<j/\j<=i+l.length
 | 0,l,i,o,o',j,h=>by cases h
 | f+1,[],i,o,o',j,h=>by cases h
 | f+1,c::r,i,o,o',j,h=>by
   by_cases h1:c.toNat=34
   ·rw[jL h1] at h;cases h;simp
   by_cases h2:c.toNat<32\/c.toNat=127
   ·rw[iX h1 h2] at h;cases h
   by_cases h3:c.toNat=92
   ·by_cases h4:r=[]
    ·subst h4;rw[gi h3] at h;cases h
    ·rw[fo h3 h4] at h
     split at h
     ·rename_i he
      have:=lr he
      have ih:=lO f _ _ _ h
      rw[Xh] at ih
      rw[WG];omega
     ·cases h
   ·rw[dQ h1 h2 h3] at h
    have ih:=lO f _ _ _ h
    rw[WG];omega
theorem mK:∀ (l:List UInt8) (i:Nat) (q:Option Nat) (o:List UInt8) {o':List UInt8} {j:Nat},kQ l i q o = .done o' j->i<j/\j<=i+l.length
 | [],i,q,o,o',j,h=>by cases h
 | c::r,i,q,o,o',j,h=>by
   rw[kQ] at h
   split at h
   ·cases h;simp
   ·split at h
    ·cases h
    ·split at h
     ·have ih:=mK r _ _ _ h
      rw[WG];omega
     ·have ih:=mK r _ _ _ h
      rw[WG];omega
theorem Lb (R:Rd)(i:Nat)(k:Int)(v:Bool)(z:Sc):(bT R i k v z).s=R.s:=by
 cases z with
 | short=>exact mX _ _ _
 | bad j e=>exact mX _ _ _
 | done o j=>simp only[bT];split<;>simp[mX]
theorem ri {R:Rd}{i:Nat}{k:Int}{v:Bool}{z:Sc}(h:(bT R i k v z).e=0)(h0:R.e=0):(∃ o j,z = .done o j/\(bT R i k v z).next=j)\/(∃ j,z = .bad j 0):=by
 cases z with
 | short=>exact absurd h (bY (by decide))
 | bad j e=>
   by_cases he:e=0
   ·subst he;exact .inr ⟨j,rfl⟩
   ·exact absurd h (bY he)
 | done o j=>exact .inl ⟨o,j,rfl,rfl⟩
theorem qI:∀ (f:Nat) (l:List UInt8) (i:Nat) (o:List UInt8) {j:Nat},¬ kK f l i o = .bad j 0
 | 0,l,i,o,j,h=>by cases h
 | f+1,[],i,o,j,h=>by cases h
 | f+1,c::r,i,o,j,h=>by
   by_cases h1:c.toNat=34
   ·rw[jL h1] at h;cases h
   by_cases h2:c.toNat<32\/c.toNat=127
   ·rw[iX h1 h2] at h;cases h
   by_cases h3:c.toNat=92
   ·by_cases h4:r=[]
    ·subst h4;rw[gi h3] at h;cases h
    ·rw[fo h3 h4] at h
     split at h
     ·exact qI f _ _ _ h
     ·rename_i hne
      injection h with h5 h6
      exact hne h6
   ·rw[dQ h1 h2 h3] at h
    exact qI f _ _ _ h
theorem r9:∀ (l:List UInt8) (i:Nat) (q:Option Nat) (o:List UInt8) {j:Nat},¬ kQ l i q o = .bad j 0
 | [],i,q,o,j,h=>by cases h
 | c::r,i,q,o,j,h=>by
   rw[kQ] at h
   split at h
   ·cases h
   ·split at h
    ·cases h
    ·split at h
     ·exact r9 r _ _ _ h
     ·exact r9 r _ _ _ h
theorem TH (R:Rd)(i:Nat):(vT R i).s=R.s:=Lb _ _ _ _ _
theorem Uo (R:Rd)(i:Nat):(xm R i).s=R.s:=Lb _ _ _ _ _
theorem rz (R:Rd)(i:Nat):rC R i=ba R i 13\/∃ w q,rC R i=Bd R i w q:=by
 obtain⟨a,ha⟩:∃ a,(if R.s[i]? = some 45 then i+1 else i)=a:=⟨_,rfl⟩
 by_cases hz:bR isD R.s a=a
 ·exact .inl (rB ha hz)
 ·exact .inr ⟨_,_,fS ha rfl hz rfl⟩
theorem Rh (R:Rd)(i:Nat)(w:Nat×Bool×Bool)(q:(Int×Nat)×Int):(Bd R i w q).s=R.s/\(Bd R i w q).now.pos=R.now.pos:=by
 obtain⟨a,x,y⟩:=w
 obtain⟨⟨n,sc⟩,e⟩:=q
 by_cases he:e=0
 ·subst he;rw[fT];exact⟨rfl,rfl⟩
 ·rw[ik he];simp only[mX,cY];exact⟨trivial,trivial⟩
theorem Rf (R:Rd)(i:Nat):(rC R i).s=R.s/\(rC R i).now.pos=R.now.pos:=by
 rcases rz R i with h | ⟨w,q,h⟩
 ·rw[h,mX,cY];exact⟨rfl,rfl⟩
 ·rw[h];exact Rh _ _ _ _
theorem Ht {R:Rd}{i:Nat}(h0:R.e=0)(hi:i<R.s.length)(h:(vT R i).e=0):i<(vT R i).next/\(vT R i).next<=R.s.length:=by
 rcases ri h h0 with ⟨o,j,h1,h2⟩ | ⟨j,h1⟩
 ·have:=lO _ _ _ _ h1
  rw[Xh] at this
  unfold vT;rw[h2];omega
 ·exact absurd h1 (qI _ _ _ _)
theorem Jj {R:Rd}{i:Nat}(h0:R.e=0)(hi:i+1<R.s.length)(h:(xm R i).e=0):i<(xm R i).next/\(xm R i).next<=R.s.length:=by
 rcases ri h h0 with ⟨o,j,h1,h2⟩ | ⟨j,h1⟩
 ·have:=mK _ _ _ _ h1
  rw[Xh] at this
  unfold xm;rw[h2];omega
 ·exact absurd h1 (r9 _ _ _ _)
theorem NK {s:List UInt8}{z:Nat}(h:z<=s.length):z<=(ub s z).1/\(ub s z).1<=s.length:=by
 unfold ub
 split
 ·rename_i h1
  have:z<s.length:=by
   rcases Nat.lt_or_ge z s.length with h' | h'
   ·exact h'
   ·rw[Xu h'] at h1;cases h1.1
  have h2:z+1<=bR isD s (z+1):=kv
  have h3:bR isD s (z+1)<=s.length:=fp (by omega)
  exact⟨by simp only;omega,h3⟩
 ·split
  ·rename_i h1
   have:z<s.length:=by
    rcases Nat.lt_or_ge z s.length with h' | h'
    ·exact h'
    ·rw[Xu h'] at h1;cases h1
   exact⟨by simp only;omega,by simp only;omega⟩
  ·exact⟨Nat.le_refl _,h⟩
theorem ID {R:Rd}{i:Nat}(h0:R.e=0)(hi:i<R.s.length)(h:(rC R i).e=0):i<(rC R i).next/\(rC R i).next<=R.s.length:=by
 obtain⟨a,ha⟩:∃ a,(if R.s[i]? = some 45 then i+1 else i)=a:=⟨_,rfl⟩
 have hal:a<=R.s.length/\i<=a:=by rw[<- ha];split<;>omega
 have hz1:a<=bR isD R.s a:=kv
 have hz2:bR isD R.s a<=R.s.length:=fp hal.1
 by_cases hz:bR isD R.s a=a
 ·rw[rB ha hz] at h
  exact absurd h (bY (by decide))
 ·rw[fS ha rfl hz rfl]
  have hw:=NK hz2
  generalize ub R.s (bR isD R.s a)=w at *
  obtain⟨w1,w2,w3⟩:=w
  generalize bC _=q
  obtain⟨⟨n,sc⟩,e⟩:=q
  by_cases he:e=0
  ·subst he
   rw[fT]
   simp only at hw ⊢;omega
  ·rw[ik he]
   simp only[EZ] at hw ⊢;omega
theorem I7 (R:Rd)(i:Nat)(c:UInt8):(fc R i c).s=R.s:=by
 unfold fc
 split
 ·exact TH _ _
 split
 ·exact Uo _ _
 split
 ·rfl
 split
 ·exact (Rf _ _).1
 split
 ·rfl
 split
 ·rfl
 ·exact mX _ _ _
theorem wQ {R:Rd}{i:Nat}{c:UInt8}(h0:R.e=0)(hc:R.s[i]? = some c)(h:(fc R i c).e=0):i<(fc R i c).next/\(fc R i c).next<=R.s.length:=by
 have hi:i<R.s.length:=(WH.1 hc).1
 have l1:∀ {j:Nat} {b:UInt8},R.s[j]? = some b->j<R.s.length:=fun h=>(WH.1 h).1
 unfold fc at h ⊢
 split
 ·rename_i h1;rw[if_pos h1] at h;exact Ht h0 hi h
 rename_i h1
 rw[if_neg h1] at h
 split
 ·rename_i h2;rw[if_pos h2] at h;exact Jj h0 (l1 h2.2) h
 rename_i h2
 rw[if_neg h2] at h
 split
 ·rename_i h3
  have hw:db c=true:=by unfold db;rw[h3];rfl
  have e:=wa (q:=db) hc
  rw[if_pos hw] at e
  have e1:i+1<=bR db R.s (i+1):=kv
  have e2:bR db R.s (i+1)<=R.s.length:=fp (by omega)
  simp only
  omega
 rename_i h3
 rw[if_neg h3] at h
 split
 ·rename_i h4;rw[if_pos h4] at h;exact ID h0 hi h
 rename_i h4
 rw[if_neg h4] at h
 split
 ·rename_i h5
  have:=l1 h5.2
  exact⟨by simp only;omega,by simp only;omega⟩
 rename_i h5
 rw[if_neg h5] at h
 split
 ·exact⟨by simp only;omega,by simp only;omega⟩
 ·rename_i h6
  rw[if_neg h6] at h
  exact absurd h (bY (by decide))
def OkR (R:Rd):Prop:=R.e=0->R.s.length<=65536/\R.now.pos<=R.next/\R.next<=R.s.length/\(R.now.kind≠0->R.now.pos<R.next)
theorem A7 {R:Rd}(h:R.e≠0):bi R=R:=if_neg h
theorem Gf {R:Rd}(h:R.e=0)(hi:R.s.length<=bR aW R.s R.next):bi R = { R with now:={ pos:=bR aW R.s R.next },next:=bR aW R.s R.next }:=by
 unfold bi
 rw[if_pos h]
 simp only
 rw[Xu hi]
theorem Ge {R:Rd}{c:UInt8}(h:R.e=0)(hi:R.s[bR aW R.s R.next]? = some c):bi R=dH (fc { R with now:={ pos:=bR aW R.s R.next },next:=bR aW R.s R.next } (bR aW R.s R.next) c) (bR aW R.s R.next):=by
 unfold bi
 rw[if_pos h]
 simp only
 rw[hi]
theorem KP (R:Rd)(i:Nat):(dH R i).s=R.s:=by unfold dH;split<;>rfl
theorem BQ (R:Rd)(i:Nat):(dH R i).next=R.next:=by unfold dH;split<;>rfl
theorem KQ (R:Rd)(i:Nat):(dH R i).e=R.e:=by unfold dH;split<;>rfl
theorem G0 (R:Rd)(i:Nat):(dH R i).now.pos=R.now.pos:=by unfold dH;split<;>rfl
theorem Pn (R:Rd):(bi R).s=R.s:=by
 by_cases h:R.e=0
 ·by_cases hi:R.s.length<=bR aW R.s R.next
  ·rw[Gf h hi]
  ·obtain⟨c,hc⟩:∃ c,R.s[bR aW R.s R.next]? = some c:=⟨_,WE (by omega)⟩
   rw[Ge h hc,KP,I7]
 ·rw[A7 h]
theorem N9 (R:Rd)(i:Nat)(c:UInt8):(fc R i c).now.pos=R.now.pos:=by
 unfold fc
 split
 ·unfold vT
  generalize kK _ _ _ _=z
  cases z with
  | short=>simp only[bT,cY]
  | bad j e=>simp only[bT,cY]
  | done o j=>simp only[bT];split<;>simp[cY]
 split
 ·unfold xm
  generalize kQ _ _ _ _=z
  cases z with
  | short=>simp only[bT,cY]
  | bad j e=>simp only[bT,cY]
  | done o j=>simp only[bT];split<;>simp[cY]
 split
 ·rfl
 split
 ·exact (Rf _ _).2
 split
 ·rfl
 split
 ·rfl
 ·rw[cY]
theorem yc {R:Rd}(h:(bi R).e=0):R.e=0:=by
 by_cases h0:R.e=0
 ·exact h0
 ·rw[A7 h0] at h;exact h
theorem Ma {R:Rd}(hR:OkR R):OkR (bi R)/\((bi R).e=0->R.next<=(bi R).now.pos):=by
 by_cases h:R.e=0
 ·obtain⟨h1,h2,h3,h4⟩:=hR h
  have r1:R.next<=bR aW R.s R.next:=kv
  have r2:bR aW R.s R.next<=R.s.length:=fp h3
  by_cases hi:R.s.length<=bR aW R.s R.next
  ·rw[Gf h hi]
   exact⟨fun _=>⟨h1,Nat.le_refl _,r2,fun hk=>absurd rfl hk⟩,fun _=>r1⟩
  ·obtain⟨c,hc⟩:∃ c,R.s[bR aW R.s R.next]? = some c:=⟨_,WE (by omega)⟩
   rw[Ge h hc]
   generalize bR aW R.s R.next=i at *
   have hn:=wQ (R:={ R with now:={ pos:=i },next:=i }) (i:=i) (c:=c) h hc
   have hs:=I7 { R with now:={ pos:=i },next:=i } i c
   have hp:=N9 { R with now:={ pos:=i },next:=i } i c
   generalize fc { R with now:={ pos:=i },next:=i } i c=L at *
   unfold OkR
   rw[KQ,KP,G0,BQ]
   simp only at hs hp
   rw[hs,hp]
   exact⟨fun he=>⟨h1,by have:=hn he;omega,(hn he).2,fun _=>(hn he).1⟩,fun _=>r1⟩
 ·rw[A7 h]
  exact⟨hR,fun h'=>absurd h' h⟩
