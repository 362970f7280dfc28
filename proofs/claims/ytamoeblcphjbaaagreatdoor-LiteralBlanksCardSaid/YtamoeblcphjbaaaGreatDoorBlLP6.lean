/- A part. -/
import Derived.Test.YtamoeblcphjbaaaGreatDoorBlLP1
set_option linter.unusedVariables false
set_option linter.unusedSimpArgs false
set_option maxHeartbeats 16000000
set_option maxRecDepth 100000
open List renaming length_append->Us,length_singleton->UL,take_length->U2,take_of_length_le->UW,getElem?_eq_getElem->Uo,length_drop->UC,length_take->UM,getElem?_eq_none->UN
open UInt8 renaming toNat_inj->US
namespace Go.Proofs.YtamoeblcphjbaaaGreatDoor
open Go Go.Ab
attribute [local irreducible] vc
theorem Dc (s:List UInt8)(hs:s.length<=100000):au Tryz.prog aH 261 [.str s,.str [100]] (.bool (decide (s.getLast? = some 100))):=by
 refine au.intro QI.2 (by simp[QI]) ?_
 rcases List.eq_nil_or_concat s with rfl | ⟨l,c,rfl⟩
 ·simp(disch:=try exact dI) only[QI,push_cast,seval]
  simp
 ·rw[List.concat_eq_append] at hs ⊢
  rw[Us,UL] at hs
  have h1:(1:Int)<=(l.length:Int)+1:=by omega
  have e1:(l.length:Int)+1 - 1=(l.length:Int):=by omega
  by_cases hc:c=100
  ·subst hc
   rw[show decide ((l++[(100:UInt8)]).getLast? = some 100)=true by simp]
   simp(disch:=try exact dI) only[QI,Us,h1,e1,List.drop_left,U2,List.take_append_length,push_cast,seval]
   rw[UW (by simp),List.drop_left];rfl
  ·rw[show decide ((l++[c]).getLast? = some 100)=false by simp[hc]]
   simp(disch:=try exact dI) only[QI,Us,h1,e1,List.drop_left,U2,hc,push_cast,seval]
   rw[UW (by simp),List.drop_left];simp[hc]
theorem E7 (s:List UInt8)(hs:s.length<=100000):au Tryz.prog aH 236 [.str s,.str [100]] (.str (ct s)):=by
 have h:=Dc s hs
 refine au.intro Rh.2 (by simp[Rh]) ?_
 unfold ct
 by_cases hc:s.getLast? = some 100
 ·rw[if_pos hc]
  rw[decide_eq_true hc] at h
  rcases List.eq_nil_or_concat s with rfl | ⟨l,c,rfl⟩
  ·cases hc
  ·have e1:(l.length:Int)+1 - 1=(l.length:Int):=by omega
   rw[List.concat_eq_append] at h hs ⊢
   rw[Us,UL] at hs
   rw[List.dropLast_concat]
   simp(disch:=try exact dI) only[Rh,push_cast,seval]
   refine ae.pure h rfl ?_
   simp(disch:=try exact dI) only[Us,e1,List.take_left,push_cast,seval]
 ·rw[if_neg hc]
  rw[decide_eq_false hc] at h
  simp(disch:=try exact dI) only[Rh,push_cast,seval]
  refine ae.pure h rfl ?_
  exact qsZ
theorem bR (s:List UInt8)(hs:s.length<=100000):au Tryz.prog aH 209 [.str s,.str [100]] (.str (ct s)):=by
 have h:=E7 s hs
 generalize ct s=q at *
 refine au.intro S3.2 (by simp[S3]) ?_
 simp(disch:=try exact dI) only[S3,push_cast,seval]
 refine ae.pure h rfl ?_
 exact qsZ
section
variable {T:Nat}{p:PV}
theorem r8 (R:Rd)(i g:Nat)(q:UInt8->Bool)(hg:∀ c:UInt8,au Tryz.prog aH g [.int .u8 (c.toNat:Int)] (.bool (q c)))(hs:R.s.length<=65536)(hi:i<=R.s.length) :
  aI Tryz.prog (bE T p) 1 157 [.ptr 0 0,.pv (.int .i64 (i:Int)),.pv (.clo g [] [])] [rdB R] (.pv (.int .i64 (aN q R.s i:Int))) [rdB R]:=OD R i g q (fun c=>toE (hg c)) hs hi
def zu (R:Rd)(i:Nat)(w:Nat×Bool×Bool)(q:(Int×Nat)×Int):Rd:=
 let R1:={ R with next:=w.1,now:={ R.now with dec:=w.2.1,exa:=w.2.2 } }
 let R2:=if q.2=0 then R1 else aP R1 i q.2
 { R2 with now:={ R2.now with kind:=2,num:=q.1.1,sc:=q.1.2 } }
theorem cJ {R:Rd}{i a:Nat}{x y:Bool}{n:Int}{sc:Nat}:zu R i (a,x,y) ((n,sc),0) = { R with next:=a,now:={ R.now with dec:=x,exa:=y,kind:=2,num:=n,sc:=sc } }:=rfl
theorem cI {R:Rd}{i a:Nat}{x y:Bool}{n e:Int}{sc:Nat}(he:¬ e=0):zu R i (a,x,y) ((n,sc),e) = { aP { R with next:=a,now:={ R.now with dec:=x,exa:=y } } i e with now:={ (aP { R with next:=a,now:={ R.now with dec:=x,exa:=y } } i e).now with kind:=2,num:=n,sc:=sc } }:=by
 unfold zu
 simp only[if_neg he]
theorem ly {R:Rd}{i a:Nat}(ha:(if R.s[i]? = some 45 then i+1 else i)=a)(hz:aN isD R.s a=a):qm R i=aP R i 13:=by
 unfold qm
 simp only[ha]
 exact if_pos hz
theorem cH {R:Rd}{i a z:Nat}{w:Nat×Bool×Bool}(ha:(if R.s[i]? = some 45 then i+1 else i)=a)(hz:aN isD R.s a=z)(h:¬ z=a)(hw:mL R.s z=w):qm R i=zu R i w (aW (ct ((R.s.take w.1).drop i))):=by
 unfold qm
 simp only[ha,hz,hw]
 exact if_neg h
theorem qo {s:List UInt8}{z:Nat}(h:s[z]? = some 46/\(s[z+1]?.any isD)=true):mL s z=(aN isD s (z+1),true,false):=if_pos h
theorem lB {s:List UInt8}{z:Nat}(h:¬ (s[z]? = some 46/\(s[z+1]?.any isD)=true))(h2:s[z]? = some 100):mL s z=(z+1,true,true):=(if_neg h).trans (if_pos h2)
theorem ea {s:List UInt8}{z:Nat}(h:¬ (s[z]? = some 46/\(s[z+1]?.any isD)=true))(h2:¬ s[z]? = some 100):mL s z=(z,false,false):=(if_neg h).trans (if_neg h2)
theorem Pe (R:Rd)(i:Nat)(hs:R.s.length<=65536)(hi:i<R.s.length)(hE:R.e=0)(hd:R.now.dec=false/\R.now.exa=false):aI Tryz.prog (bE T p) 1 165 [.ptr 0 0,.pv (.int .i64 (i:Int))] [rdB R] (.pv (.tup [])) [rdB (qm R i)]:=by
 have hf:=fun (R:Rd) i e=>bV (T:=T) (p:=p) R i e
 have hdg:=fun c=>toE (T:=T) (p:=p) (fe c)
 obtain⟨hd1,hd2⟩:=hd
 obtain⟨c,hc⟩:∃ c,R.s[i]? = some c:=⟨_,Uo hi⟩
 by_cases h:(c.toNat:Int)=45
 ·have hc45:c=45:=US.1 (by simpa using (show c.toNat=45 by omega))
  obtain⟨a,ha0⟩:∃ a,a=i+1:=⟨_,rfl⟩
  have ha:(if R.s[i]? = some 45 then i+1 else i)=a:=by rw[hc,hc45,if_pos rfl,ha0]
  have h45:(i:Int)+1=(a:Int):=by omega
  have hr:=r8 (T:=T) (p:=p) R a 164 isD fe hs (by omega)
  obtain⟨z,hz⟩:∃ z,aN isD R.s a=z:=⟨_,rfl⟩
  have hzl:z<=R.s.length:=by rw[<- hz];exact bI (by omega)
  have haz:a<=z:=by rw[<- hz];exact df
  rw[hz] at hr
  have hr0:=hr
  simp only[rdB,rdC] at hr0
  by_cases hza:z=a
  ·rw[ly ha (hz.trans hza)]
   rw[hza] at hr0
   have hfa:=hf R i 13
   simp only[rdB,rdC] at hfa
   refine aI.intro zH.2 (by simp[zH]) ?_
   simp(disch:=try exact dI) only[zH,rdB,rdC,hc,ag,h,h45,push_cast,seval]
   refine ae.lentK hr0 [0] rfl (by simp(disch:=try exact dI) only[h,h45,push_cast,seval]) qsZ ?_
   refine zgZ ?_
   refine ae.lentK hfa [0] rfl qsZ qsZ ?_
   refine zgZ ?_
   exact am [] (by simp(disch:=try exact dI) only[rdB,rdC,push_cast,seval])
  have hzaI:¬ (z:Int)=(a:Int):=by omega
  have hdotF:∀ b:UInt8,R.s[z]? = some b->b≠46->¬ (R.s[z]? = some 46/\(R.s[z+1]?.any isD)=true):=fun b h h2 q=>h2 (Option.some.inj (h.symm.trans q.1))
  refine aI.intro zH.2 (by simp[zH]) ?_
  simp(disch:=try exact dI) only[zH,rdB,rdC,hc,ag,h,h45,push_cast,seval]
  refine ae.lentK hr0 [0] rfl (by simp(disch:=try exact dI) only[h,h45,push_cast,seval]) qsZ ?_
  simp(disch:=try exact dI) only[hzaI,push_cast,seval]
  by_cases hzl1:z+1<R.s.length
  ·have hzl1I:(z:Int)+1<(R.s.length:Int):=by omega
   have hzl0I:(z:Int)<(R.s.length:Int):=by omega
   obtain⟨b,hb⟩:∃ b,R.s[z]? = some b:=⟨_,Uo (by omega)⟩
   obtain⟨b2,hb2⟩:∃ b2,R.s[z+1]? = some b2:=⟨_,Uo hzl1⟩
   have hd64:=hdg b2
   have hz1n:((z:Int)+1).toNat=z+1:=by omega
   by_cases h46:(b.toNat:Int)=46
   ·have hb46:b=46:=US.1 (by simpa using (show b.toNat=46 by omega))
    cases hD:isD b2 with
    | true=>
      rw[hD] at hd64
      rw[cH ha hz hza (qo ⟨by rw[hb,hb46],by rw[hb2];exact hD⟩)]
      have hr2:=r8 (T:=T) (p:=p) { R with next:=z } (z+1) 164 isD fe hs (by simp only;omega)
      have hw1:z+1<=aN isD R.s (z+1):=df
      have hw2:aN isD R.s (z+1)<=R.s.length:=bI (by omega)
      simp only[rdB,rdC] at hr2
      generalize aN isD R.s (z+1)=w at *
      simp(disch:=try exact dI) only[hzl1I,hb,ag,h46,hz1n,hb2,push_cast,seval]
      refine ae.pure hd64 rfl ?_
      refine zgZ ?_
      refine ae.lentK hr2 [0] rfl qsZ qsZ ?_
      have htr:=toE (T:=T) (p:=p) (bR ((R.s.take (w)).drop i) (by rw[UC,UM];omega))
      have hpa:=bM (T:=T) (p:=p) (ct ((R.s.take (w)).drop i))
      have hle:(i:Int)<=((w:Nat):Int):=by omega
      have hle2:((w:Nat):Int)<=(R.s.length:Int):=by omega
      have hleN:w<=R.s.length:=by omega
      generalize hQ:aW (ct ((R.s.take (w)).drop i))=Q at *
      generalize ct ((R.s.take (w)).drop i)=cq at *
      obtain⟨⟨n,sc⟩,e⟩:=Q
      simp only at hpa
      by_cases he:e=0
      ·subst he
       rw[cJ]
       refine zgZ ?_
       refine ap htr rfl ?_
       refine zgZ ?_
       refine ap hpa rfl ?_
       refine zgZ ?_
       exact am [] (by simp(disch:=try exact dI) only[rdB,rdC,hd1,hd2,push_cast,seval])
      ·rw[cI he]
       have hfa:=hf { R with next:=w,now:={ R.now with dec:=true,exa:=false } } i e
       simp only[rdB,rdC] at hfa
       refine zgZ ?_
       refine ap htr rfl ?_
       refine zgZ ?_
       refine ap hpa rfl ?_
       simp(disch:=try exact dI) only[he,push_cast,seval]
       refine ae.lentK hfa [0] rfl qsZ (by simp(disch:=try exact dI) only[hd1,hd2,push_cast,seval]) ?_
       refine zgZ ?_
       exact am [] (by simp(disch:=try exact dI) only[rdB,rdC,hd1,hd2,push_cast,seval])
    | false=>
      rw[hD] at hd64
      have hno:¬ (R.s[z]? = some 46/\(R.s[z+1]?.any isD)=true):=fun q=>by
       have:=q.2
       rw[hb2] at this
       exact absurd (hD.symm.trans this) (by decide)
      rw[cH ha hz hza (ea hno (by rw[hb,hb46];decide))]
      simp(disch:=try exact dI) only[hzl1I,hb,ag,h46,hz1n,hb2,push_cast,seval]
      refine ae.pure hd64 rfl ?_
      have h100:¬ (b.toNat:Int)=100:=by omega
      have htr:=toE (T:=T) (p:=p) (bR ((R.s.take (z)).drop i) (by rw[UC,UM];omega))
      have hpa:=bM (T:=T) (p:=p) (ct ((R.s.take (z)).drop i))
      have hle:(i:Int)<=((z:Nat):Int):=by omega
      have hle2:((z:Nat):Int)<=(R.s.length:Int):=by omega
      have hleN:z<=R.s.length:=by omega
      generalize hQ:aW (ct ((R.s.take (z)).drop i))=Q at *
      generalize ct ((R.s.take (z)).drop i)=cq at *
      obtain⟨⟨n,sc⟩,e⟩:=Q
      simp only at hpa
      by_cases he:e=0
      ·subst he
       rw[cJ]
       simp(disch:=try exact dI) only[hb,ag,h100,hzl0I,push_cast,seval]
       refine ap htr rfl ?_
       refine zgZ ?_
       refine ap hpa rfl ?_
       refine zgZ ?_
       exact am [] (by simp(disch:=try exact dI) only[rdB,rdC,hd1,hd2,push_cast,seval])
      ·rw[cI he]
       have hfa:=hf { R with next:=z,now:={ R.now with dec:=false,exa:=false } } i e
       simp only[rdB,rdC] at hfa
       simp(disch:=try exact dI) only[hb,ag,h100,hzl0I,push_cast,seval]
       refine ap htr rfl ?_
       refine zgZ ?_
       refine ap hpa rfl ?_
       simp(disch:=try exact dI) only[he,push_cast,seval]
       refine ae.lentK hfa [0] rfl qsZ (by simp(disch:=try exact dI) only[hd1,hd2,push_cast,seval]) ?_
       refine zgZ ?_
       exact am [] (by simp(disch:=try exact dI) only[rdB,rdC,hd1,hd2,push_cast,seval])
   ·have hno:=hdotF b hb (fun q=>h46 (by rw[q];rfl))
    by_cases h100:(b.toNat:Int)=100
    ·have hb100:b=100:=US.1 (by simpa using (show b.toNat=100 by omega))
     rw[cH ha hz hza (lB hno (by rw[hb,hb100]))]
     have htr:=toE (T:=T) (p:=p) (bR ((R.s.take (z+1)).drop i) (by rw[UC,UM];omega))
     have hpa:=bM (T:=T) (p:=p) (ct ((R.s.take (z+1)).drop i))
     have hle:(i:Int)<=((z+1:Nat):Int):=by omega
     have hle2:((z+1:Nat):Int)<=(R.s.length:Int):=by omega
     have hleN:z+1<=R.s.length:=by omega
     generalize hQ:aW (ct ((R.s.take (z+1)).drop i))=Q at *
     generalize ct ((R.s.take (z+1)).drop i)=cq at *
     obtain⟨⟨n,sc⟩,e⟩:=Q
     simp only at hpa
     by_cases he:e=0
     ·subst he
      rw[cJ]
      simp(disch:=try exact dI) only[hzl1I,hzl0I,hb,ag,h46,h100,push_cast,seval]
      refine ap htr rfl ?_
      refine zgZ ?_
      refine ap hpa rfl ?_
      refine zgZ ?_
      exact am [] (by simp(disch:=try exact dI) only[rdB,rdC,hd1,hd2,push_cast,seval])
     ·rw[cI he]
      have hfa:=hf { R with next:=z+1,now:={ R.now with dec:=true,exa:=true } } i e
      simp only[rdB,rdC] at hfa
      simp(disch:=try exact dI) only[hzl1I,hzl0I,hb,ag,h46,h100,push_cast,seval]
      refine ap htr rfl ?_
      refine zgZ ?_
      refine ap hpa rfl ?_
      simp(disch:=try exact dI) only[he,push_cast,seval]
      refine ae.lentK hfa [0] rfl qsZ (by simp(disch:=try exact dI) only[hd1,hd2,push_cast,seval]) ?_
      refine zgZ ?_
      exact am [] (by simp(disch:=try exact dI) only[rdB,rdC,hd1,hd2,push_cast,seval])
    ·rw[cH ha hz hza (ea hno (by rw[hb];intro q;exact h100 (by rw[Option.some.inj q];rfl)))]
     have htr:=toE (T:=T) (p:=p) (bR ((R.s.take (z)).drop i) (by rw[UC,UM];omega))
     have hpa:=bM (T:=T) (p:=p) (ct ((R.s.take (z)).drop i))
     have hle:(i:Int)<=((z:Nat):Int):=by omega
     have hle2:((z:Nat):Int)<=(R.s.length:Int):=by omega
     have hleN:z<=R.s.length:=by omega
     generalize hQ:aW (ct ((R.s.take (z)).drop i))=Q at *
     generalize ct ((R.s.take (z)).drop i)=cq at *
     obtain⟨⟨n,sc⟩,e⟩:=Q
     simp only at hpa
     by_cases he:e=0
     ·subst he
      rw[cJ]
      simp(disch:=try exact dI) only[hzl1I,hzl0I,hb,ag,h46,h100,push_cast,seval]
      refine ap htr rfl ?_
      refine zgZ ?_
      refine ap hpa rfl ?_
      refine zgZ ?_
      exact am [] (by simp(disch:=try exact dI) only[rdB,rdC,hd1,hd2,push_cast,seval])
     ·rw[cI he]
      have hfa:=hf { R with next:=z,now:={ R.now with dec:=false,exa:=false } } i e
      simp only[rdB,rdC] at hfa
      simp(disch:=try exact dI) only[hzl1I,hzl0I,hb,ag,h46,h100,push_cast,seval]
      refine ap htr rfl ?_
      refine zgZ ?_
      refine ap hpa rfl ?_
      simp(disch:=try exact dI) only[he,push_cast,seval]
      refine ae.lentK hfa [0] rfl qsZ (by simp(disch:=try exact dI) only[hd1,hd2,push_cast,seval]) ?_
      refine zgZ ?_
      exact am [] (by simp(disch:=try exact dI) only[rdB,rdC,hd1,hd2,push_cast,seval])
  ·have hzl1I:¬ (z:Int)+1<(R.s.length:Int):=by omega
   have hno:¬ (R.s[z]? = some 46/\(R.s[z+1]?.any isD)=true):=fun q=>by
    have:=q.2
    rw[UN (by omega)] at this
    cases this
   by_cases hzl0:z<R.s.length
   ·have hzl0I:(z:Int)<(R.s.length:Int):=by omega
    obtain⟨b,hb⟩:∃ b,R.s[z]? = some b:=⟨_,Uo hzl0⟩
    by_cases h100:(b.toNat:Int)=100
    ·have hb100:b=100:=US.1 (by simpa using (show b.toNat=100 by omega))
     rw[cH ha hz hza (lB hno (by rw[hb,hb100]))]
     have htr:=toE (T:=T) (p:=p) (bR ((R.s.take (z+1)).drop i) (by rw[UC,UM];omega))
     have hpa:=bM (T:=T) (p:=p) (ct ((R.s.take (z+1)).drop i))
     have hle:(i:Int)<=((z+1:Nat):Int):=by omega
     have hle2:((z+1:Nat):Int)<=(R.s.length:Int):=by omega
     have hleN:z+1<=R.s.length:=by omega
     generalize hQ:aW (ct ((R.s.take (z+1)).drop i))=Q at *
     generalize ct ((R.s.take (z+1)).drop i)=cq at *
     obtain⟨⟨n,sc⟩,e⟩:=Q
     simp only at hpa
     by_cases he:e=0
     ·subst he
      rw[cJ]
      simp(disch:=try exact dI) only[hzl1I,hzl0I,hb,ag,h100,push_cast,seval]
      refine ap htr rfl ?_
      refine zgZ ?_
      refine ap hpa rfl ?_
      refine zgZ ?_
      exact am [] (by simp(disch:=try exact dI) only[rdB,rdC,hd1,hd2,push_cast,seval])
     ·rw[cI he]
      have hfa:=hf { R with next:=z+1,now:={ R.now with dec:=true,exa:=true } } i e
      simp only[rdB,rdC] at hfa
      simp(disch:=try exact dI) only[hzl1I,hzl0I,hb,ag,h100,push_cast,seval]
      refine ap htr rfl ?_
      refine zgZ ?_
      refine ap hpa rfl ?_
      simp(disch:=try exact dI) only[he,push_cast,seval]
      refine ae.lentK hfa [0] rfl qsZ (by simp(disch:=try exact dI) only[hd1,hd2,push_cast,seval]) ?_
      refine zgZ ?_
      exact am [] (by simp(disch:=try exact dI) only[rdB,rdC,hd1,hd2,push_cast,seval])
    ·rw[cH ha hz hza (ea hno (by rw[hb];intro q;exact h100 (by rw[Option.some.inj q];rfl)))]
     have htr:=toE (T:=T) (p:=p) (bR ((R.s.take (z)).drop i) (by rw[UC,UM];omega))
     have hpa:=bM (T:=T) (p:=p) (ct ((R.s.take (z)).drop i))
     have hle:(i:Int)<=((z:Nat):Int):=by omega
     have hle2:((z:Nat):Int)<=(R.s.length:Int):=by omega
     have hleN:z<=R.s.length:=by omega
     generalize hQ:aW (ct ((R.s.take (z)).drop i))=Q at *
     generalize ct ((R.s.take (z)).drop i)=cq at *
     obtain⟨⟨n,sc⟩,e⟩:=Q
     simp only at hpa
     by_cases he:e=0
     ·subst he
      rw[cJ]
      simp(disch:=try exact dI) only[hzl1I,hzl0I,hb,ag,h100,push_cast,seval]
      refine ap htr rfl ?_
      refine zgZ ?_
      refine ap hpa rfl ?_
      refine zgZ ?_
      exact am [] (by simp(disch:=try exact dI) only[rdB,rdC,hd1,hd2,push_cast,seval])
     ·rw[cI he]
      have hfa:=hf { R with next:=z,now:={ R.now with dec:=false,exa:=false } } i e
      simp only[rdB,rdC] at hfa
      simp(disch:=try exact dI) only[hzl1I,hzl0I,hb,ag,h100,push_cast,seval]
      refine ap htr rfl ?_
      refine zgZ ?_
      refine ap hpa rfl ?_
      simp(disch:=try exact dI) only[he,push_cast,seval]
      refine ae.lentK hfa [0] rfl qsZ (by simp(disch:=try exact dI) only[hd1,hd2,push_cast,seval]) ?_
      refine zgZ ?_
      exact am [] (by simp(disch:=try exact dI) only[rdB,rdC,hd1,hd2,push_cast,seval])
   ·have hzl0I:¬ (z:Int)<(R.s.length:Int):=by omega
    rw[cH ha hz hza (ea hno (by rw[UN (by omega)];intro q;cases q))]
    have htr:=toE (T:=T) (p:=p) (bR ((R.s.take (z)).drop i) (by rw[UC,UM];omega))
    have hpa:=bM (T:=T) (p:=p) (ct ((R.s.take (z)).drop i))
    have hle:(i:Int)<=((z:Nat):Int):=by omega
    have hle2:((z:Nat):Int)<=(R.s.length:Int):=by omega
    have hleN:z<=R.s.length:=by omega
    generalize hQ:aW (ct ((R.s.take (z)).drop i))=Q at *
    generalize ct ((R.s.take (z)).drop i)=cq at *
    obtain⟨⟨n,sc⟩,e⟩:=Q
    simp only at hpa
    by_cases he:e=0
    ·subst he
     rw[cJ]
     simp(disch:=try exact dI) only[hzl1I,hzl0I,push_cast,seval]
     refine ap htr rfl ?_
     refine zgZ ?_
     refine ap hpa rfl ?_
     refine zgZ ?_
     exact am [] (by simp(disch:=try exact dI) only[rdB,rdC,hd1,hd2,push_cast,seval])
    ·rw[cI he]
     have hfa:=hf { R with next:=z,now:={ R.now with dec:=false,exa:=false } } i e
     simp only[rdB,rdC] at hfa
     simp(disch:=try exact dI) only[hzl1I,hzl0I,push_cast,seval]
     refine ap htr rfl ?_
     refine zgZ ?_
     refine ap hpa rfl ?_
     simp(disch:=try exact dI) only[he,push_cast,seval]
     refine ae.lentK hfa [0] rfl qsZ (by simp(disch:=try exact dI) only[hd1,hd2,push_cast,seval]) ?_
     refine zgZ ?_
     exact am [] (by simp(disch:=try exact dI) only[rdB,rdC,hd1,hd2,push_cast,seval])
 ·have ha:(if R.s[i]? = some 45 then i+1 else i)=i:=by
   rw[hc,if_neg (fun q=>h (by rw[Option.some.inj q];rfl))]
  have hr:=r8 (T:=T) (p:=p) R i 164 isD fe hs (by omega)
  obtain⟨z,hz⟩:∃ z,aN isD R.s i=z:=⟨_,rfl⟩
  have hzl:z<=R.s.length:=by rw[<- hz];exact bI (by omega)
  have haz:i<=z:=by rw[<- hz];exact df
  rw[hz] at hr
  have hr0:=hr
  simp only[rdB,rdC] at hr0
  by_cases hza:z=i
  ·rw[ly ha (hz.trans hza)]
   rw[hza] at hr0
   have hfa:=hf R i 13
   simp only[rdB,rdC] at hfa
   refine aI.intro zH.2 (by simp[zH]) ?_
   simp(disch:=try exact dI) only[zH,rdB,rdC,hc,ag,h,push_cast,seval]
   refine ae.lentK hr0 [0] rfl (by simp(disch:=try exact dI) only[h,push_cast,seval]) qsZ ?_
   refine zgZ ?_
   refine ae.lentK hfa [0] rfl qsZ qsZ ?_
   refine zgZ ?_
   exact am [] (by simp(disch:=try exact dI) only[rdB,rdC,push_cast,seval])
  have hzaI:¬ (z:Int)=(i:Int):=by omega
  have hdotF:∀ b:UInt8,R.s[z]? = some b->b≠46->¬ (R.s[z]? = some 46/\(R.s[z+1]?.any isD)=true):=fun b h h2 q=>h2 (Option.some.inj (h.symm.trans q.1))
  refine aI.intro zH.2 (by simp[zH]) ?_
  simp(disch:=try exact dI) only[zH,rdB,rdC,hc,ag,h,push_cast,seval]
  refine ae.lentK hr0 [0] rfl (by simp(disch:=try exact dI) only[h,push_cast,seval]) qsZ ?_
  simp(disch:=try exact dI) only[hzaI,push_cast,seval]
  by_cases hzl1:z+1<R.s.length
  ·have hzl1I:(z:Int)+1<(R.s.length:Int):=by omega
   have hzl0I:(z:Int)<(R.s.length:Int):=by omega
   obtain⟨b,hb⟩:∃ b,R.s[z]? = some b:=⟨_,Uo (by omega)⟩
   obtain⟨b2,hb2⟩:∃ b2,R.s[z+1]? = some b2:=⟨_,Uo hzl1⟩
   have hd64:=hdg b2
   have hz1n:((z:Int)+1).toNat=z+1:=by omega
   by_cases h46:(b.toNat:Int)=46
   ·have hb46:b=46:=US.1 (by simpa using (show b.toNat=46 by omega))
    cases hD:isD b2 with
    | true=>
      rw[hD] at hd64
      rw[cH ha hz hza (qo ⟨by rw[hb,hb46],by rw[hb2];exact hD⟩)]
      have hr2:=r8 (T:=T) (p:=p) { R with next:=z } (z+1) 164 isD fe hs (by simp only;omega)
      have hw1:z+1<=aN isD R.s (z+1):=df
      have hw2:aN isD R.s (z+1)<=R.s.length:=bI (by omega)
      simp only[rdB,rdC] at hr2
      generalize aN isD R.s (z+1)=w at *
      simp(disch:=try exact dI) only[hzl1I,hb,ag,h46,hz1n,hb2,push_cast,seval]
      refine ae.pure hd64 rfl ?_
      refine zgZ ?_
      refine ae.lentK hr2 [0] rfl qsZ qsZ ?_
      have htr:=toE (T:=T) (p:=p) (bR ((R.s.take (w)).drop i) (by rw[UC,UM];omega))
      have hpa:=bM (T:=T) (p:=p) (ct ((R.s.take (w)).drop i))
      have hle:(i:Int)<=((w:Nat):Int):=by omega
      have hle2:((w:Nat):Int)<=(R.s.length:Int):=by omega
      have hleN:w<=R.s.length:=by omega
      generalize hQ:aW (ct ((R.s.take (w)).drop i))=Q at *
      generalize ct ((R.s.take (w)).drop i)=cq at *
      obtain⟨⟨n,sc⟩,e⟩:=Q
      simp only at hpa
      by_cases he:e=0
      ·subst he
       rw[cJ]
       refine zgZ ?_
       refine ap htr rfl ?_
       refine zgZ ?_
       refine ap hpa rfl ?_
       refine zgZ ?_
       exact am [] (by simp(disch:=try exact dI) only[rdB,rdC,hd1,hd2,push_cast,seval])
      ·rw[cI he]
       have hfa:=hf { R with next:=w,now:={ R.now with dec:=true,exa:=false } } i e
       simp only[rdB,rdC] at hfa
       refine zgZ ?_
       refine ap htr rfl ?_
       refine zgZ ?_
       refine ap hpa rfl ?_
       simp(disch:=try exact dI) only[he,push_cast,seval]
       refine ae.lentK hfa [0] rfl qsZ (by simp(disch:=try exact dI) only[hd1,hd2,push_cast,seval]) ?_
       refine zgZ ?_
       exact am [] (by simp(disch:=try exact dI) only[rdB,rdC,hd1,hd2,push_cast,seval])
    | false=>
      rw[hD] at hd64
      have hno:¬ (R.s[z]? = some 46/\(R.s[z+1]?.any isD)=true):=fun q=>by
       have:=q.2
       rw[hb2] at this
       exact absurd (hD.symm.trans this) (by decide)
      rw[cH ha hz hza (ea hno (by rw[hb,hb46];decide))]
      simp(disch:=try exact dI) only[hzl1I,hb,ag,h46,hz1n,hb2,push_cast,seval]
      refine ae.pure hd64 rfl ?_
      have h100:¬ (b.toNat:Int)=100:=by omega
      have htr:=toE (T:=T) (p:=p) (bR ((R.s.take (z)).drop i) (by rw[UC,UM];omega))
      have hpa:=bM (T:=T) (p:=p) (ct ((R.s.take (z)).drop i))
      have hle:(i:Int)<=((z:Nat):Int):=by omega
      have hle2:((z:Nat):Int)<=(R.s.length:Int):=by omega
      have hleN:z<=R.s.length:=by omega
      generalize hQ:aW (ct ((R.s.take (z)).drop i))=Q at *
      generalize ct ((R.s.take (z)).drop i)=cq at *
      obtain⟨⟨n,sc⟩,e⟩:=Q
      simp only at hpa
      by_cases he:e=0
      ·subst he
       rw[cJ]
       simp(disch:=try exact dI) only[hb,ag,h100,hzl0I,push_cast,seval]
       refine ap htr rfl ?_
       refine zgZ ?_
       refine ap hpa rfl ?_
       refine zgZ ?_
       exact am [] (by simp(disch:=try exact dI) only[rdB,rdC,hd1,hd2,push_cast,seval])
      ·rw[cI he]
       have hfa:=hf { R with next:=z,now:={ R.now with dec:=false,exa:=false } } i e
       simp only[rdB,rdC] at hfa
       simp(disch:=try exact dI) only[hb,ag,h100,hzl0I,push_cast,seval]
       refine ap htr rfl ?_
       refine zgZ ?_
       refine ap hpa rfl ?_
       simp(disch:=try exact dI) only[he,push_cast,seval]
       refine ae.lentK hfa [0] rfl qsZ (by simp(disch:=try exact dI) only[hd1,hd2,push_cast,seval]) ?_
       refine zgZ ?_
       exact am [] (by simp(disch:=try exact dI) only[rdB,rdC,hd1,hd2,push_cast,seval])
   ·have hno:=hdotF b hb (fun q=>h46 (by rw[q];rfl))
    by_cases h100:(b.toNat:Int)=100
    ·have hb100:b=100:=US.1 (by simpa using (show b.toNat=100 by omega))
     rw[cH ha hz hza (lB hno (by rw[hb,hb100]))]
     have htr:=toE (T:=T) (p:=p) (bR ((R.s.take (z+1)).drop i) (by rw[UC,UM];omega))
     have hpa:=bM (T:=T) (p:=p) (ct ((R.s.take (z+1)).drop i))
     have hle:(i:Int)<=((z+1:Nat):Int):=by omega
     have hle2:((z+1:Nat):Int)<=(R.s.length:Int):=by omega
     have hleN:z+1<=R.s.length:=by omega
     generalize hQ:aW (ct ((R.s.take (z+1)).drop i))=Q at *
     generalize ct ((R.s.take (z+1)).drop i)=cq at *
     obtain⟨⟨n,sc⟩,e⟩:=Q
     simp only at hpa
     by_cases he:e=0
     ·subst he
      rw[cJ]
      simp(disch:=try exact dI) only[hzl1I,hzl0I,hb,ag,h46,h100,push_cast,seval]
      refine ap htr rfl ?_
      refine zgZ ?_
      refine ap hpa rfl ?_
      refine zgZ ?_
      exact am [] (by simp(disch:=try exact dI) only[rdB,rdC,hd1,hd2,push_cast,seval])
     ·rw[cI he]
      have hfa:=hf { R with next:=z+1,now:={ R.now with dec:=true,exa:=true } } i e
      simp only[rdB,rdC] at hfa
      simp(disch:=try exact dI) only[hzl1I,hzl0I,hb,ag,h46,h100,push_cast,seval]
      refine ap htr rfl ?_
      refine zgZ ?_
      refine ap hpa rfl ?_
      simp(disch:=try exact dI) only[he,push_cast,seval]
      refine ae.lentK hfa [0] rfl qsZ (by simp(disch:=try exact dI) only[hd1,hd2,push_cast,seval]) ?_
      refine zgZ ?_
      exact am [] (by simp(disch:=try exact dI) only[rdB,rdC,hd1,hd2,push_cast,seval])
    ·rw[cH ha hz hza (ea hno (by rw[hb];intro q;exact h100 (by rw[Option.some.inj q];rfl)))]
     have htr:=toE (T:=T) (p:=p) (bR ((R.s.take (z)).drop i) (by rw[UC,UM];omega))
     have hpa:=bM (T:=T) (p:=p) (ct ((R.s.take (z)).drop i))
     have hle:(i:Int)<=((z:Nat):Int):=by omega
     have hle2:((z:Nat):Int)<=(R.s.length:Int):=by omega
     have hleN:z<=R.s.length:=by omega
     generalize hQ:aW (ct ((R.s.take (z)).drop i))=Q at *
     generalize ct ((R.s.take (z)).drop i)=cq at *
     obtain⟨⟨n,sc⟩,e⟩:=Q
     simp only at hpa
     by_cases he:e=0
     ·subst he
      rw[cJ]
      simp(disch:=try exact dI) only[hzl1I,hzl0I,hb,ag,h46,h100,push_cast,seval]
      refine ap htr rfl ?_
      refine zgZ ?_
      refine ap hpa rfl ?_
      refine zgZ ?_
      exact am [] (by simp(disch:=try exact dI) only[rdB,rdC,hd1,hd2,push_cast,seval])
     ·rw[cI he]
      have hfa:=hf { R with next:=z,now:={ R.now with dec:=false,exa:=false } } i e
      simp only[rdB,rdC] at hfa
      simp(disch:=try exact dI) only[hzl1I,hzl0I,hb,ag,h46,h100,push_cast,seval]
      refine ap htr rfl ?_
      refine zgZ ?_
      refine ap hpa rfl ?_
      simp(disch:=try exact dI) only[he,push_cast,seval]
      refine ae.lentK hfa [0] rfl qsZ (by simp(disch:=try exact dI) only[hd1,hd2,push_cast,seval]) ?_
      refine zgZ ?_
      exact am [] (by simp(disch:=try exact dI) only[rdB,rdC,hd1,hd2,push_cast,seval])
  ·have hzl1I:¬ (z:Int)+1<(R.s.length:Int):=by omega
   have hno:¬ (R.s[z]? = some 46/\(R.s[z+1]?.any isD)=true):=fun q=>by
    have:=q.2
    rw[UN (by omega)] at this
    cases this
   by_cases hzl0:z<R.s.length
   ·have hzl0I:(z:Int)<(R.s.length:Int):=by omega
    obtain⟨b,hb⟩:∃ b,R.s[z]? = some b:=⟨_,Uo hzl0⟩
    by_cases h100:(b.toNat:Int)=100
    ·have hb100:b=100:=US.1 (by simpa using (show b.toNat=100 by omega))
     rw[cH ha hz hza (lB hno (by rw[hb,hb100]))]
     have htr:=toE (T:=T) (p:=p) (bR ((R.s.take (z+1)).drop i) (by rw[UC,UM];omega))
     have hpa:=bM (T:=T) (p:=p) (ct ((R.s.take (z+1)).drop i))
     have hle:(i:Int)<=((z+1:Nat):Int):=by omega
     have hle2:((z+1:Nat):Int)<=(R.s.length:Int):=by omega
     have hleN:z+1<=R.s.length:=by omega
     generalize hQ:aW (ct ((R.s.take (z+1)).drop i))=Q at *
     generalize ct ((R.s.take (z+1)).drop i)=cq at *
     obtain⟨⟨n,sc⟩,e⟩:=Q
     simp only at hpa
     by_cases he:e=0
     ·subst he
      rw[cJ]
      simp(disch:=try exact dI) only[hzl1I,hzl0I,hb,ag,h100,push_cast,seval]
      refine ap htr rfl ?_
      refine zgZ ?_
      refine ap hpa rfl ?_
      refine zgZ ?_
      exact am [] (by simp(disch:=try exact dI) only[rdB,rdC,hd1,hd2,push_cast,seval])
     ·rw[cI he]
      have hfa:=hf { R with next:=z+1,now:={ R.now with dec:=true,exa:=true } } i e
      simp only[rdB,rdC] at hfa
      simp(disch:=try exact dI) only[hzl1I,hzl0I,hb,ag,h100,push_cast,seval]
      refine ap htr rfl ?_
      refine zgZ ?_
      refine ap hpa rfl ?_
      simp(disch:=try exact dI) only[he,push_cast,seval]
      refine ae.lentK hfa [0] rfl qsZ (by simp(disch:=try exact dI) only[hd1,hd2,push_cast,seval]) ?_
      refine zgZ ?_
      exact am [] (by simp(disch:=try exact dI) only[rdB,rdC,hd1,hd2,push_cast,seval])
    ·rw[cH ha hz hza (ea hno (by rw[hb];intro q;exact h100 (by rw[Option.some.inj q];rfl)))]
     have htr:=toE (T:=T) (p:=p) (bR ((R.s.take (z)).drop i) (by rw[UC,UM];omega))
     have hpa:=bM (T:=T) (p:=p) (ct ((R.s.take (z)).drop i))
     have hle:(i:Int)<=((z:Nat):Int):=by omega
     have hle2:((z:Nat):Int)<=(R.s.length:Int):=by omega
     have hleN:z<=R.s.length:=by omega
     generalize hQ:aW (ct ((R.s.take (z)).drop i))=Q at *
     generalize ct ((R.s.take (z)).drop i)=cq at *
     obtain⟨⟨n,sc⟩,e⟩:=Q
     simp only at hpa
     by_cases he:e=0
     ·subst he
      rw[cJ]
      simp(disch:=try exact dI) only[hzl1I,hzl0I,hb,ag,h100,push_cast,seval]
      refine ap htr rfl ?_
      refine zgZ ?_
      refine ap hpa rfl ?_
      refine zgZ ?_
      exact am [] (by simp(disch:=try exact dI) only[rdB,rdC,hd1,hd2,push_cast,seval])
     ·rw[cI he]
      have hfa:=hf { R with next:=z,now:={ R.now with dec:=false,exa:=false } } i e
      simp only[rdB,rdC] at hfa
      simp(disch:=try exact dI) only[hzl1I,hzl0I,hb,ag,h100,push_cast,seval]
      refine ap htr rfl ?_
      refine zgZ ?_
      refine ap hpa rfl ?_
      simp(disch:=try exact dI) only[he,push_cast,seval]
      refine ae.lentK hfa [0] rfl qsZ (by simp(disch:=try exact dI) only[hd1,hd2,push_cast,seval]) ?_
      refine zgZ ?_
      exact am [] (by simp(disch:=try exact dI) only[rdB,rdC,hd1,hd2,push_cast,seval])
   ·have hzl0I:¬ (z:Int)<(R.s.length:Int):=by omega
    rw[cH ha hz hza (ea hno (by rw[UN (by omega)];intro q;cases q))]
    have htr:=toE (T:=T) (p:=p) (bR ((R.s.take (z)).drop i) (by rw[UC,UM];omega))
    have hpa:=bM (T:=T) (p:=p) (ct ((R.s.take (z)).drop i))
    have hle:(i:Int)<=((z:Nat):Int):=by omega
    have hle2:((z:Nat):Int)<=(R.s.length:Int):=by omega
    have hleN:z<=R.s.length:=by omega
    generalize hQ:aW (ct ((R.s.take (z)).drop i))=Q at *
    generalize ct ((R.s.take (z)).drop i)=cq at *
    obtain⟨⟨n,sc⟩,e⟩:=Q
    simp only at hpa
    by_cases he:e=0
    ·subst he
     rw[cJ]
     simp(disch:=try exact dI) only[hzl1I,hzl0I,push_cast,seval]
     refine ap htr rfl ?_
     refine zgZ ?_
     refine ap hpa rfl ?_
     refine zgZ ?_
     exact am [] (by simp(disch:=try exact dI) only[rdB,rdC,hd1,hd2,push_cast,seval])
    ·rw[cI he]
     have hfa:=hf { R with next:=z,now:={ R.now with dec:=false,exa:=false } } i e
     simp only[rdB,rdC] at hfa
     simp(disch:=try exact dI) only[hzl1I,hzl0I,push_cast,seval]
     refine ap htr rfl ?_
     refine zgZ ?_
     refine ap hpa rfl ?_
     simp(disch:=try exact dI) only[he,push_cast,seval]
     refine ae.lentK hfa [0] rfl qsZ (by simp(disch:=try exact dI) only[hd1,hd2,push_cast,seval]) ?_
     refine zgZ ?_
     exact am [] (by simp(disch:=try exact dI) only[rdB,rdC,hd1,hd2,push_cast,seval])
end
