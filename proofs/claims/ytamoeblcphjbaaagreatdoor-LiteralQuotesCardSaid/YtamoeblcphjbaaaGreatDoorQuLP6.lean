/- A part of the proof for LiteralQuotesCardSaid. -/
import Derived.Test.YtamoeblcphjbaaaGreatDoorQuLP2
set_option maxRecDepth 100000
set_option linter.unusedVariables false
set_option linter.unusedSimpArgs false
-- many steps
namespace Go.Proofs.YtamoeblcphjbaaaGreatDoor
open Go Go.Ab
attribute [local irreducible] vc
theorem Aq (s:List UInt8)(hs:s.length≤100000):aw Tryz.prog aF 261 [.str s,.str [100]] (.bool (decide (s.getLast? = some 100))):=by
 refine aw.intro J2 (by simp[N0]) ?_
 rcases List.eq_nil_or_concat s with rfl | ⟨l,c,rfl⟩
 ·simp(maxSteps:=9^7) (disch:=first|exact dI|fail) only[N0,push_cast,seval]
  simp
 ·rw[List.concat_eq_append] at hs ⊢
  rw[List.length_append,List.length_singleton] at hs
  have h1:(1:Int)≤(l.length:Int)+1:=by omega
  have e1:(l.length:Int)+1 - 1=(l.length:Int):=by omega
  by_cases hc:c=100
  ·subst hc
   rw[show decide ((l++[(100:UInt8)]).getLast? = some 100)=true by simp]
   simp(maxSteps:=9^7) (disch:=first|exact dI|fail) only[N0,List.length_append,h1,e1,List.drop_left,List.take_length,List.take_append_length,push_cast,seval]
   rw[List.take_of_length_le (by simp),List.drop_left];rfl
  ·rw[show decide ((l++[c]).getLast? = some 100)=false by simp[hc]]
   simp(maxSteps:=9^7) (disch:=first|exact dI|fail) only[N0,List.length_append,h1,e1,List.drop_left,List.take_length,hc,push_cast,seval]
   rw[List.take_of_length_le (by simp),List.drop_left];simp[hc]
theorem CF (s:List UInt8)(hs:s.length≤100000):aw Tryz.prog aF 236 [.str s,.str [100]] (.str (cB s)):=by
 have h:=Aq s hs
 refine aw.intro J4 (by simp[OB]) ?_
 unfold cB
 by_cases hc:s.getLast? = some 100
 ·rw[if_pos hc]
  rw[decide_eq_true hc] at h
  rcases List.eq_nil_or_concat s with rfl | ⟨l,c,rfl⟩
  ·cases hc
  ·have e1:(l.length:Int)+1 - 1=(l.length:Int):=by omega
   rw[List.concat_eq_append] at h hs ⊢
   rw[List.length_append,List.length_singleton] at hs
   rw[List.dropLast_concat]
   simp(maxSteps:=9^7) (disch:=first|exact dI|fail) only[OB,push_cast,seval]
   refine ab.pure h rfl ?_
   simp(maxSteps:=9^7) (disch:=first|exact dI|fail) only[List.length_append,e1,List.take_left,push_cast,seval]
 ·rw[if_neg hc]
  rw[decide_eq_false hc] at h
  simp(maxSteps:=9^7) (disch:=first|exact dI|fail) only[OB,push_cast,seval]
  refine ab.pure h rfl ?_
  simp(maxSteps:=9^7) (disch:=first|exact dI|fail) only[push_cast,seval]
theorem bm (s:List UInt8)(hs:s.length≤100000):aw Tryz.prog aF 209 [.str s,.str [100]] (.str (cB s)):=by
 have h:=CF s hs
 generalize cB s=q at *
 refine aw.intro Ka (by simp[P7]) ?_
 simp(maxSteps:=9^7) (disch:=first|exact dI|fail) only[P7,push_cast,seval]
 refine ab.pure h rfl ?_
 simp(maxSteps:=9^7) (disch:=first|exact dI|fail) only[push_cast,seval]
section
variable {T:Nat}{p:PV}
theorem oS (R:Rd)(i g:Nat)(q:UInt8→Bool)(hg:∀ c:UInt8,aw Tryz.prog aF g [.int .u8 (c.toNat:Int)] (.bool (q c)))(hs:R.s.length≤65536)(hi:i≤R.s.length) :
  aL Tryz.prog (di T p) 1 157 [.ptr 0 0,.pv (.int .i64 (i:Int)),.pv (.clo g [] [])] [rdB R] (.pv (.int .i64 (bz q R.s i:Int))) [rdB R]:=LL R i g q (fun c=>toE (hg c)) hs hi
def y7 (R:Rd)(i:Nat)(w:Nat×Bool×Bool)(q:(Int×Nat)×Int):Rd:=
 let R1:={ R with next:=w.1,now:={ R.now with dec:=w.2.1,exa:=w.2.2 } }
 let R2:=if q.2=0 then R1 else aQ R1 i q.2
 { R2 with now:={ R2.now with kind:=2,num:=q.1.1,sc:=q.1.2 } }
theorem ci {R:Rd}{i a:Nat}{x y:Bool}{n:Int}{sc:Nat}:y7 R i (a,x,y) ((n,sc),0) = { R with next:=a,now:={ R.now with dec:=x,exa:=y,kind:=2,num:=n,sc:=sc } }:=rfl
theorem cg {R:Rd}{i a:Nat}{x y:Bool}{n e:Int}{sc:Nat}(he:¬ e=0):y7 R i (a,x,y) ((n,sc),e) = { aQ { R with next:=a,now:={ R.now with dec:=x,exa:=y } } i e with now:={ (aQ { R with next:=a,now:={ R.now with dec:=x,exa:=y } } i e).now with kind:=2,num:=n,sc:=sc } }:=by
 unfold y7
 simp only[if_neg he]
theorem m5 {R:Rd}{i a:Nat}(ha:(if R.s[i]? = some 45 then i+1 else i)=a)(hz:bz isD R.s a=a):px R i=aQ R i 13:=by
 unfold px
 simp only[ha]
 exact if_pos hz
theorem cf {R:Rd}{i a z:Nat}{w:Nat×Bool×Bool}(ha:(if R.s[i]? = some 45 then i+1 else i)=a)(hz:bz isD R.s a=z)(h:¬ z=a)(hw:wc R.s z=w):px R i=y7 R i w (aW (cB ((R.s.take w.1).drop i))):=by
 unfold px
 simp only[ha,hz,hw]
 exact if_neg h
theorem Gv {s:List UInt8}{z:Nat}(h:s[z]? = some 46∧(s[z+1]?.any isD)=true):wc s z=(bz isD s (z+1),true,false):=if_pos h
theorem rA {s:List UInt8}{z:Nat}(h:¬ (s[z]? = some 46∧(s[z+1]?.any isD)=true))(h2:s[z]? = some 100):wc s z=(z+1,true,true):=(if_neg h).trans (if_pos h2)
theorem gJ {s:List UInt8}{z:Nat}(h:¬ (s[z]? = some 46∧(s[z+1]?.any isD)=true))(h2:¬ s[z]? = some 100):wc s z=(z,false,false):=(if_neg h).trans (if_neg h2)
set_option maxHeartbeats 8000000 in
theorem Mm (R:Rd)(i:Nat)(hs:R.s.length≤65536)(hi:i<R.s.length)(hE:R.e=0)(hd:R.now.dec=false∧R.now.exa=false):aL Tryz.prog (di T p) 1 165 [.ptr 0 0,.pv (.int .i64 (i:Int))] [rdB R] (.pv (.tup [])) [rdB (px R i)]:=by
 have hf:=fun (R:Rd) i e=>cl (T:=T) (p:=p) R i e
 have hdg:=fun c=>toE (T:=T) (p:=p) (dS c)
 obtain⟨hd1,hd2⟩:=hd
 obtain⟨c,hc⟩:∃ c,R.s[i]? = some c:=⟨_,List.getElem?_eq_getElem hi⟩
 by_cases h:(c.toNat:Int)=45
 ·have hc45:c=45:=UInt8.toNat_inj.1 (by simpa using (show c.toNat=45 by omega))
  obtain⟨a,ha0⟩:∃ a,a=i+1:=⟨_,rfl⟩
  have ha:(if R.s[i]? = some 45 then i+1 else i)=a:=by rw[hc,hc45,if_pos rfl,ha0]
  have h45:(i:Int)+1=(a:Int):=by omega
  have hr:=oS (T:=T) (p:=p) R a 164 isD dS hs (by omega)
  obtain⟨z,hz⟩:∃ z,bz isD R.s a=z:=⟨_,rfl⟩
  have hzl:z≤R.s.length:=by rw[← hz];exact cK (by omega)
  have haz:a≤z:=by rw[← hz];exact eS
  rw[hz] at hr
  have hr0:=hr
  simp only[rdB,rdC] at hr0
  by_cases hza:z=a
  ·rw[m5 ha (hz.trans hza)]
   rw[hza] at hr0
   have hfa:=hf R i 13
   simp only[rdB,rdC] at hfa
   refine aL.intro lT (by simp[F2]) ?_
   simp(maxSteps:=9^7) (disch:=first|exact dI|fail) only[F2,rdB,rdC,hc,ag,h,h45,push_cast,seval]
   refine ab.lentK hr0 [0] rfl (by simp(maxSteps:=9^7) (disch:=first|exact dI|fail) only[h,h45,push_cast,seval]) (by simp(maxSteps:=9^7) (disch:=first|exact dI|fail) only[push_cast,seval]) ?_
   simp(maxSteps:=9^7) (disch:=first|exact dI|fail) only[push_cast,seval]
   refine ab.lentK hfa [0] rfl (by simp(maxSteps:=9^7) (disch:=first|exact dI|fail) only[push_cast,seval]) (by simp(maxSteps:=9^7) (disch:=first|exact dI|fail) only[push_cast,seval]) ?_
   simp(maxSteps:=9^7) (disch:=first|exact dI|fail) only[push_cast,seval]
   exact ap [] (by simp(maxSteps:=9^7) (disch:=first|exact dI|fail) only[rdB,rdC,push_cast,seval])
  have hzaI:¬ (z:Int)=(a:Int):=by omega
  have hdotF:∀ b:UInt8,R.s[z]? = some b→b≠46→¬ (R.s[z]? = some 46∧(R.s[z+1]?.any isD)=true):=fun b h h2 q=>h2 (Option.some.inj (h.symm.trans q.1))
  refine aL.intro lT (by simp[F2]) ?_
  simp(maxSteps:=9^7) (disch:=first|exact dI|fail) only[F2,rdB,rdC,hc,ag,h,h45,push_cast,seval]
  refine ab.lentK hr0 [0] rfl (by simp(maxSteps:=9^7) (disch:=first|exact dI|fail) only[h,h45,push_cast,seval]) (by simp(maxSteps:=9^7) (disch:=first|exact dI|fail) only[push_cast,seval]) ?_
  simp(maxSteps:=9^7) (disch:=first|exact dI|fail) only[hzaI,push_cast,seval]
  by_cases hzl1:z+1<R.s.length
  ·have hzl1I:(z:Int)+1<(R.s.length:Int):=by omega
   have hzl0I:(z:Int)<(R.s.length:Int):=by omega
   obtain⟨b,hb⟩:∃ b,R.s[z]? = some b:=⟨_,List.getElem?_eq_getElem (by omega)⟩
   obtain⟨b2,hb2⟩:∃ b2,R.s[z+1]? = some b2:=⟨_,List.getElem?_eq_getElem hzl1⟩
   have hd64:=hdg b2
   have hz1n:((z:Int)+1).toNat=z+1:=by omega
   by_cases h46:(b.toNat:Int)=46
   ·have hb46:b=46:=UInt8.toNat_inj.1 (by simpa using (show b.toNat=46 by omega))
    cases hD:isD b2 with
    | true=>
      rw[hD] at hd64
      rw[cf ha hz hza (Gv ⟨by rw[hb,hb46],by rw[hb2];exact hD⟩)]
      have hr2:=oS (T:=T) (p:=p) { R with next:=z } (z+1) 164 isD dS hs (by simp only;omega)
      have hw1:z+1≤bz isD R.s (z+1):=eS
      have hw2:bz isD R.s (z+1)≤R.s.length:=cK (by omega)
      simp only[rdB,rdC] at hr2
      generalize bz isD R.s (z+1)=w at *
      simp(maxSteps:=9^7) (disch:=first|exact dI|fail) only[hzl1I,hb,ag,h46,hz1n,hb2,push_cast,seval]
      refine ab.pure hd64 rfl ?_
      simp(maxSteps:=9^7) (disch:=first|exact dI|fail) only[push_cast,seval]
      refine ab.lentK hr2 [0] rfl (by simp(maxSteps:=9^7) (disch:=first|exact dI|fail) only[push_cast,seval]) (by simp(maxSteps:=9^7) (disch:=first|exact dI|fail) only[push_cast,seval]) ?_
      have htr:=toE (T:=T) (p:=p) (bm ((R.s.take (w)).drop i) (by rw[List.length_drop,List.length_take];omega))
      have hpa:=bp (T:=T) (p:=p) (cB ((R.s.take (w)).drop i))
      have hle:(i:Int)≤((w:Nat):Int):=by omega
      have hle2:((w:Nat):Int)≤(R.s.length:Int):=by omega
      have hleN:w≤R.s.length:=by omega
      generalize hQ:aW (cB ((R.s.take (w)).drop i))=Q at *
      generalize cB ((R.s.take (w)).drop i)=cq at *
      obtain⟨⟨n,sc⟩,e⟩:=Q
      simp only at hpa
      by_cases he:e=0
      ·subst he
       rw[ci]
       simp(maxSteps:=9^7) (disch:=first|exact dI|fail) only[push_cast,seval]
       refine ae htr rfl ?_
       simp(maxSteps:=9^7) (disch:=first|exact dI|fail) only[push_cast,seval]
       refine ae hpa rfl ?_
       simp(maxSteps:=9^7) (disch:=first|exact dI|fail) only[push_cast,seval]
       exact ap [] (by simp(maxSteps:=9^7) (disch:=first|exact dI|fail) only[rdB,rdC,hd1,hd2,push_cast,seval])
      ·rw[cg he]
       have hfa:=hf { R with next:=w,now:={ R.now with dec:=true,exa:=false } } i e
       simp only[rdB,rdC] at hfa
       simp(maxSteps:=9^7) (disch:=first|exact dI|fail) only[push_cast,seval]
       refine ae htr rfl ?_
       simp(maxSteps:=9^7) (disch:=first|exact dI|fail) only[push_cast,seval]
       refine ae hpa rfl ?_
       simp(maxSteps:=9^7) (disch:=first|exact dI|fail) only[he,push_cast,seval]
       refine ab.lentK hfa [0] rfl (by simp(maxSteps:=9^7) (disch:=first|exact dI|fail) only[push_cast,seval]) (by simp(maxSteps:=9^7) (disch:=first|exact dI|fail) only[hd1,hd2,push_cast,seval]) ?_
       simp(maxSteps:=9^7) (disch:=first|exact dI|fail) only[push_cast,seval]
       exact ap [] (by simp(maxSteps:=9^7) (disch:=first|exact dI|fail) only[rdB,rdC,hd1,hd2,push_cast,seval])
    | false=>
      rw[hD] at hd64
      have hno:¬ (R.s[z]? = some 46∧(R.s[z+1]?.any isD)=true):=fun q=>by
       have:=q.2
       rw[hb2] at this
       exact absurd (hD.symm.trans this) (by decide)
      rw[cf ha hz hza (gJ hno (by rw[hb,hb46];decide))]
      simp(maxSteps:=9^7) (disch:=first|exact dI|fail) only[hzl1I,hb,ag,h46,hz1n,hb2,push_cast,seval]
      refine ab.pure hd64 rfl ?_
      have h100:¬ (b.toNat:Int)=100:=by omega
      have htr:=toE (T:=T) (p:=p) (bm ((R.s.take (z)).drop i) (by rw[List.length_drop,List.length_take];omega))
      have hpa:=bp (T:=T) (p:=p) (cB ((R.s.take (z)).drop i))
      have hle:(i:Int)≤((z:Nat):Int):=by omega
      have hle2:((z:Nat):Int)≤(R.s.length:Int):=by omega
      have hleN:z≤R.s.length:=by omega
      generalize hQ:aW (cB ((R.s.take (z)).drop i))=Q at *
      generalize cB ((R.s.take (z)).drop i)=cq at *
      obtain⟨⟨n,sc⟩,e⟩:=Q
      simp only at hpa
      by_cases he:e=0
      ·subst he
       rw[ci]
       simp(maxSteps:=9^7) (disch:=first|exact dI|fail) only[hb,ag,h100,hzl0I,push_cast,seval]
       refine ae htr rfl ?_
       simp(maxSteps:=9^7) (disch:=first|exact dI|fail) only[push_cast,seval]
       refine ae hpa rfl ?_
       simp(maxSteps:=9^7) (disch:=first|exact dI|fail) only[push_cast,seval]
       exact ap [] (by simp(maxSteps:=9^7) (disch:=first|exact dI|fail) only[rdB,rdC,hd1,hd2,push_cast,seval])
      ·rw[cg he]
       have hfa:=hf { R with next:=z,now:={ R.now with dec:=false,exa:=false } } i e
       simp only[rdB,rdC] at hfa
       simp(maxSteps:=9^7) (disch:=first|exact dI|fail) only[hb,ag,h100,hzl0I,push_cast,seval]
       refine ae htr rfl ?_
       simp(maxSteps:=9^7) (disch:=first|exact dI|fail) only[push_cast,seval]
       refine ae hpa rfl ?_
       simp(maxSteps:=9^7) (disch:=first|exact dI|fail) only[he,push_cast,seval]
       refine ab.lentK hfa [0] rfl (by simp(maxSteps:=9^7) (disch:=first|exact dI|fail) only[push_cast,seval]) (by simp(maxSteps:=9^7) (disch:=first|exact dI|fail) only[hd1,hd2,push_cast,seval]) ?_
       simp(maxSteps:=9^7) (disch:=first|exact dI|fail) only[push_cast,seval]
       exact ap [] (by simp(maxSteps:=9^7) (disch:=first|exact dI|fail) only[rdB,rdC,hd1,hd2,push_cast,seval])
   ·have hno:=hdotF b hb (fun q=>h46 (by rw[q];rfl))
    by_cases h100:(b.toNat:Int)=100
    ·have hb100:b=100:=UInt8.toNat_inj.1 (by simpa using (show b.toNat=100 by omega))
     rw[cf ha hz hza (rA hno (by rw[hb,hb100]))]
     have htr:=toE (T:=T) (p:=p) (bm ((R.s.take (z+1)).drop i) (by rw[List.length_drop,List.length_take];omega))
     have hpa:=bp (T:=T) (p:=p) (cB ((R.s.take (z+1)).drop i))
     have hle:(i:Int)≤((z+1:Nat):Int):=by omega
     have hle2:((z+1:Nat):Int)≤(R.s.length:Int):=by omega
     have hleN:z+1≤R.s.length:=by omega
     generalize hQ:aW (cB ((R.s.take (z+1)).drop i))=Q at *
     generalize cB ((R.s.take (z+1)).drop i)=cq at *
     obtain⟨⟨n,sc⟩,e⟩:=Q
     simp only at hpa
     by_cases he:e=0
     ·subst he
      rw[ci]
      simp(maxSteps:=9^7) (disch:=first|exact dI|fail) only[hzl1I,hzl0I,hb,ag,h46,h100,push_cast,seval]
      refine ae htr rfl ?_
      simp(maxSteps:=9^7) (disch:=first|exact dI|fail) only[push_cast,seval]
      refine ae hpa rfl ?_
      simp(maxSteps:=9^7) (disch:=first|exact dI|fail) only[push_cast,seval]
      exact ap [] (by simp(maxSteps:=9^7) (disch:=first|exact dI|fail) only[rdB,rdC,hd1,hd2,push_cast,seval])
     ·rw[cg he]
      have hfa:=hf { R with next:=z+1,now:={ R.now with dec:=true,exa:=true } } i e
      simp only[rdB,rdC] at hfa
      simp(maxSteps:=9^7) (disch:=first|exact dI|fail) only[hzl1I,hzl0I,hb,ag,h46,h100,push_cast,seval]
      refine ae htr rfl ?_
      simp(maxSteps:=9^7) (disch:=first|exact dI|fail) only[push_cast,seval]
      refine ae hpa rfl ?_
      simp(maxSteps:=9^7) (disch:=first|exact dI|fail) only[he,push_cast,seval]
      refine ab.lentK hfa [0] rfl (by simp(maxSteps:=9^7) (disch:=first|exact dI|fail) only[push_cast,seval]) (by simp(maxSteps:=9^7) (disch:=first|exact dI|fail) only[hd1,hd2,push_cast,seval]) ?_
      simp(maxSteps:=9^7) (disch:=first|exact dI|fail) only[push_cast,seval]
      exact ap [] (by simp(maxSteps:=9^7) (disch:=first|exact dI|fail) only[rdB,rdC,hd1,hd2,push_cast,seval])
    ·rw[cf ha hz hza (gJ hno (by rw[hb];intro q;exact h100 (by rw[Option.some.inj q];rfl)))]
     have htr:=toE (T:=T) (p:=p) (bm ((R.s.take (z)).drop i) (by rw[List.length_drop,List.length_take];omega))
     have hpa:=bp (T:=T) (p:=p) (cB ((R.s.take (z)).drop i))
     have hle:(i:Int)≤((z:Nat):Int):=by omega
     have hle2:((z:Nat):Int)≤(R.s.length:Int):=by omega
     have hleN:z≤R.s.length:=by omega
     generalize hQ:aW (cB ((R.s.take (z)).drop i))=Q at *
     generalize cB ((R.s.take (z)).drop i)=cq at *
     obtain⟨⟨n,sc⟩,e⟩:=Q
     simp only at hpa
     by_cases he:e=0
     ·subst he
      rw[ci]
      simp(maxSteps:=9^7) (disch:=first|exact dI|fail) only[hzl1I,hzl0I,hb,ag,h46,h100,push_cast,seval]
      refine ae htr rfl ?_
      simp(maxSteps:=9^7) (disch:=first|exact dI|fail) only[push_cast,seval]
      refine ae hpa rfl ?_
      simp(maxSteps:=9^7) (disch:=first|exact dI|fail) only[push_cast,seval]
      exact ap [] (by simp(maxSteps:=9^7) (disch:=first|exact dI|fail) only[rdB,rdC,hd1,hd2,push_cast,seval])
     ·rw[cg he]
      have hfa:=hf { R with next:=z,now:={ R.now with dec:=false,exa:=false } } i e
      simp only[rdB,rdC] at hfa
      simp(maxSteps:=9^7) (disch:=first|exact dI|fail) only[hzl1I,hzl0I,hb,ag,h46,h100,push_cast,seval]
      refine ae htr rfl ?_
      simp(maxSteps:=9^7) (disch:=first|exact dI|fail) only[push_cast,seval]
      refine ae hpa rfl ?_
      simp(maxSteps:=9^7) (disch:=first|exact dI|fail) only[he,push_cast,seval]
      refine ab.lentK hfa [0] rfl (by simp(maxSteps:=9^7) (disch:=first|exact dI|fail) only[push_cast,seval]) (by simp(maxSteps:=9^7) (disch:=first|exact dI|fail) only[hd1,hd2,push_cast,seval]) ?_
      simp(maxSteps:=9^7) (disch:=first|exact dI|fail) only[push_cast,seval]
      exact ap [] (by simp(maxSteps:=9^7) (disch:=first|exact dI|fail) only[rdB,rdC,hd1,hd2,push_cast,seval])
  ·have hzl1I:¬ (z:Int)+1<(R.s.length:Int):=by omega
   have hno:¬ (R.s[z]? = some 46∧(R.s[z+1]?.any isD)=true):=fun q=>by
    have:=q.2
    rw[List.getElem?_eq_none (by omega)] at this
    cases this
   by_cases hzl0:z<R.s.length
   ·have hzl0I:(z:Int)<(R.s.length:Int):=by omega
    obtain⟨b,hb⟩:∃ b,R.s[z]? = some b:=⟨_,List.getElem?_eq_getElem hzl0⟩
    by_cases h100:(b.toNat:Int)=100
    ·have hb100:b=100:=UInt8.toNat_inj.1 (by simpa using (show b.toNat=100 by omega))
     rw[cf ha hz hza (rA hno (by rw[hb,hb100]))]
     have htr:=toE (T:=T) (p:=p) (bm ((R.s.take (z+1)).drop i) (by rw[List.length_drop,List.length_take];omega))
     have hpa:=bp (T:=T) (p:=p) (cB ((R.s.take (z+1)).drop i))
     have hle:(i:Int)≤((z+1:Nat):Int):=by omega
     have hle2:((z+1:Nat):Int)≤(R.s.length:Int):=by omega
     have hleN:z+1≤R.s.length:=by omega
     generalize hQ:aW (cB ((R.s.take (z+1)).drop i))=Q at *
     generalize cB ((R.s.take (z+1)).drop i)=cq at *
     obtain⟨⟨n,sc⟩,e⟩:=Q
     simp only at hpa
     by_cases he:e=0
     ·subst he
      rw[ci]
      simp(maxSteps:=9^7) (disch:=first|exact dI|fail) only[hzl1I,hzl0I,hb,ag,h100,push_cast,seval]
      refine ae htr rfl ?_
      simp(maxSteps:=9^7) (disch:=first|exact dI|fail) only[push_cast,seval]
      refine ae hpa rfl ?_
      simp(maxSteps:=9^7) (disch:=first|exact dI|fail) only[push_cast,seval]
      exact ap [] (by simp(maxSteps:=9^7) (disch:=first|exact dI|fail) only[rdB,rdC,hd1,hd2,push_cast,seval])
     ·rw[cg he]
      have hfa:=hf { R with next:=z+1,now:={ R.now with dec:=true,exa:=true } } i e
      simp only[rdB,rdC] at hfa
      simp(maxSteps:=9^7) (disch:=first|exact dI|fail) only[hzl1I,hzl0I,hb,ag,h100,push_cast,seval]
      refine ae htr rfl ?_
      simp(maxSteps:=9^7) (disch:=first|exact dI|fail) only[push_cast,seval]
      refine ae hpa rfl ?_
      simp(maxSteps:=9^7) (disch:=first|exact dI|fail) only[he,push_cast,seval]
      refine ab.lentK hfa [0] rfl (by simp(maxSteps:=9^7) (disch:=first|exact dI|fail) only[push_cast,seval]) (by simp(maxSteps:=9^7) (disch:=first|exact dI|fail) only[hd1,hd2,push_cast,seval]) ?_
      simp(maxSteps:=9^7) (disch:=first|exact dI|fail) only[push_cast,seval]
      exact ap [] (by simp(maxSteps:=9^7) (disch:=first|exact dI|fail) only[rdB,rdC,hd1,hd2,push_cast,seval])
    ·rw[cf ha hz hza (gJ hno (by rw[hb];intro q;exact h100 (by rw[Option.some.inj q];rfl)))]
     have htr:=toE (T:=T) (p:=p) (bm ((R.s.take (z)).drop i) (by rw[List.length_drop,List.length_take];omega))
     have hpa:=bp (T:=T) (p:=p) (cB ((R.s.take (z)).drop i))
     have hle:(i:Int)≤((z:Nat):Int):=by omega
     have hle2:((z:Nat):Int)≤(R.s.length:Int):=by omega
     have hleN:z≤R.s.length:=by omega
     generalize hQ:aW (cB ((R.s.take (z)).drop i))=Q at *
     generalize cB ((R.s.take (z)).drop i)=cq at *
     obtain⟨⟨n,sc⟩,e⟩:=Q
     simp only at hpa
     by_cases he:e=0
     ·subst he
      rw[ci]
      simp(maxSteps:=9^7) (disch:=first|exact dI|fail) only[hzl1I,hzl0I,hb,ag,h100,push_cast,seval]
      refine ae htr rfl ?_
      simp(maxSteps:=9^7) (disch:=first|exact dI|fail) only[push_cast,seval]
      refine ae hpa rfl ?_
      simp(maxSteps:=9^7) (disch:=first|exact dI|fail) only[push_cast,seval]
      exact ap [] (by simp(maxSteps:=9^7) (disch:=first|exact dI|fail) only[rdB,rdC,hd1,hd2,push_cast,seval])
     ·rw[cg he]
      have hfa:=hf { R with next:=z,now:={ R.now with dec:=false,exa:=false } } i e
      simp only[rdB,rdC] at hfa
      simp(maxSteps:=9^7) (disch:=first|exact dI|fail) only[hzl1I,hzl0I,hb,ag,h100,push_cast,seval]
      refine ae htr rfl ?_
      simp(maxSteps:=9^7) (disch:=first|exact dI|fail) only[push_cast,seval]
      refine ae hpa rfl ?_
      simp(maxSteps:=9^7) (disch:=first|exact dI|fail) only[he,push_cast,seval]
      refine ab.lentK hfa [0] rfl (by simp(maxSteps:=9^7) (disch:=first|exact dI|fail) only[push_cast,seval]) (by simp(maxSteps:=9^7) (disch:=first|exact dI|fail) only[hd1,hd2,push_cast,seval]) ?_
      simp(maxSteps:=9^7) (disch:=first|exact dI|fail) only[push_cast,seval]
      exact ap [] (by simp(maxSteps:=9^7) (disch:=first|exact dI|fail) only[rdB,rdC,hd1,hd2,push_cast,seval])
   ·have hzl0I:¬ (z:Int)<(R.s.length:Int):=by omega
    rw[cf ha hz hza (gJ hno (by rw[List.getElem?_eq_none (by omega)];intro q;cases q))]
    have htr:=toE (T:=T) (p:=p) (bm ((R.s.take (z)).drop i) (by rw[List.length_drop,List.length_take];omega))
    have hpa:=bp (T:=T) (p:=p) (cB ((R.s.take (z)).drop i))
    have hle:(i:Int)≤((z:Nat):Int):=by omega
    have hle2:((z:Nat):Int)≤(R.s.length:Int):=by omega
    have hleN:z≤R.s.length:=by omega
    generalize hQ:aW (cB ((R.s.take (z)).drop i))=Q at *
    generalize cB ((R.s.take (z)).drop i)=cq at *
    obtain⟨⟨n,sc⟩,e⟩:=Q
    simp only at hpa
    by_cases he:e=0
    ·subst he
     rw[ci]
     simp(maxSteps:=9^7) (disch:=first|exact dI|fail) only[hzl1I,hzl0I,push_cast,seval]
     refine ae htr rfl ?_
     simp(maxSteps:=9^7) (disch:=first|exact dI|fail) only[push_cast,seval]
     refine ae hpa rfl ?_
     simp(maxSteps:=9^7) (disch:=first|exact dI|fail) only[push_cast,seval]
     exact ap [] (by simp(maxSteps:=9^7) (disch:=first|exact dI|fail) only[rdB,rdC,hd1,hd2,push_cast,seval])
    ·rw[cg he]
     have hfa:=hf { R with next:=z,now:={ R.now with dec:=false,exa:=false } } i e
     simp only[rdB,rdC] at hfa
     simp(maxSteps:=9^7) (disch:=first|exact dI|fail) only[hzl1I,hzl0I,push_cast,seval]
     refine ae htr rfl ?_
     simp(maxSteps:=9^7) (disch:=first|exact dI|fail) only[push_cast,seval]
     refine ae hpa rfl ?_
     simp(maxSteps:=9^7) (disch:=first|exact dI|fail) only[he,push_cast,seval]
     refine ab.lentK hfa [0] rfl (by simp(maxSteps:=9^7) (disch:=first|exact dI|fail) only[push_cast,seval]) (by simp(maxSteps:=9^7) (disch:=first|exact dI|fail) only[hd1,hd2,push_cast,seval]) ?_
     simp(maxSteps:=9^7) (disch:=first|exact dI|fail) only[push_cast,seval]
     exact ap [] (by simp(maxSteps:=9^7) (disch:=first|exact dI|fail) only[rdB,rdC,hd1,hd2,push_cast,seval])
 ·have ha:(if R.s[i]? = some 45 then i+1 else i)=i:=by
   rw[hc,if_neg (fun q=>h (by rw[Option.some.inj q];rfl))]
  have hr:=oS (T:=T) (p:=p) R i 164 isD dS hs (by omega)
  obtain⟨z,hz⟩:∃ z,bz isD R.s i=z:=⟨_,rfl⟩
  have hzl:z≤R.s.length:=by rw[← hz];exact cK (by omega)
  have haz:i≤z:=by rw[← hz];exact eS
  rw[hz] at hr
  have hr0:=hr
  simp only[rdB,rdC] at hr0
  by_cases hza:z=i
  ·rw[m5 ha (hz.trans hza)]
   rw[hza] at hr0
   have hfa:=hf R i 13
   simp only[rdB,rdC] at hfa
   refine aL.intro lT (by simp[F2]) ?_
   simp(maxSteps:=9^7) (disch:=first|exact dI|fail) only[F2,rdB,rdC,hc,ag,h,push_cast,seval]
   refine ab.lentK hr0 [0] rfl (by simp(maxSteps:=9^7) (disch:=first|exact dI|fail) only[h,push_cast,seval]) (by simp(maxSteps:=9^7) (disch:=first|exact dI|fail) only[push_cast,seval]) ?_
   simp(maxSteps:=9^7) (disch:=first|exact dI|fail) only[push_cast,seval]
   refine ab.lentK hfa [0] rfl (by simp(maxSteps:=9^7) (disch:=first|exact dI|fail) only[push_cast,seval]) (by simp(maxSteps:=9^7) (disch:=first|exact dI|fail) only[push_cast,seval]) ?_
   simp(maxSteps:=9^7) (disch:=first|exact dI|fail) only[push_cast,seval]
   exact ap [] (by simp(maxSteps:=9^7) (disch:=first|exact dI|fail) only[rdB,rdC,push_cast,seval])
  have hzaI:¬ (z:Int)=(i:Int):=by omega
  have hdotF:∀ b:UInt8,R.s[z]? = some b→b≠46→¬ (R.s[z]? = some 46∧(R.s[z+1]?.any isD)=true):=fun b h h2 q=>h2 (Option.some.inj (h.symm.trans q.1))
  refine aL.intro lT (by simp[F2]) ?_
  simp(maxSteps:=9^7) (disch:=first|exact dI|fail) only[F2,rdB,rdC,hc,ag,h,push_cast,seval]
  refine ab.lentK hr0 [0] rfl (by simp(maxSteps:=9^7) (disch:=first|exact dI|fail) only[h,push_cast,seval]) (by simp(maxSteps:=9^7) (disch:=first|exact dI|fail) only[push_cast,seval]) ?_
  simp(maxSteps:=9^7) (disch:=first|exact dI|fail) only[hzaI,push_cast,seval]
  by_cases hzl1:z+1<R.s.length
  ·have hzl1I:(z:Int)+1<(R.s.length:Int):=by omega
   have hzl0I:(z:Int)<(R.s.length:Int):=by omega
   obtain⟨b,hb⟩:∃ b,R.s[z]? = some b:=⟨_,List.getElem?_eq_getElem (by omega)⟩
   obtain⟨b2,hb2⟩:∃ b2,R.s[z+1]? = some b2:=⟨_,List.getElem?_eq_getElem hzl1⟩
   have hd64:=hdg b2
   have hz1n:((z:Int)+1).toNat=z+1:=by omega
   by_cases h46:(b.toNat:Int)=46
   ·have hb46:b=46:=UInt8.toNat_inj.1 (by simpa using (show b.toNat=46 by omega))
    cases hD:isD b2 with
    | true=>
      rw[hD] at hd64
      rw[cf ha hz hza (Gv ⟨by rw[hb,hb46],by rw[hb2];exact hD⟩)]
      have hr2:=oS (T:=T) (p:=p) { R with next:=z } (z+1) 164 isD dS hs (by simp only;omega)
      have hw1:z+1≤bz isD R.s (z+1):=eS
      have hw2:bz isD R.s (z+1)≤R.s.length:=cK (by omega)
      simp only[rdB,rdC] at hr2
      generalize bz isD R.s (z+1)=w at *
      simp(maxSteps:=9^7) (disch:=first|exact dI|fail) only[hzl1I,hb,ag,h46,hz1n,hb2,push_cast,seval]
      refine ab.pure hd64 rfl ?_
      simp(maxSteps:=9^7) (disch:=first|exact dI|fail) only[push_cast,seval]
      refine ab.lentK hr2 [0] rfl (by simp(maxSteps:=9^7) (disch:=first|exact dI|fail) only[push_cast,seval]) (by simp(maxSteps:=9^7) (disch:=first|exact dI|fail) only[push_cast,seval]) ?_
      have htr:=toE (T:=T) (p:=p) (bm ((R.s.take (w)).drop i) (by rw[List.length_drop,List.length_take];omega))
      have hpa:=bp (T:=T) (p:=p) (cB ((R.s.take (w)).drop i))
      have hle:(i:Int)≤((w:Nat):Int):=by omega
      have hle2:((w:Nat):Int)≤(R.s.length:Int):=by omega
      have hleN:w≤R.s.length:=by omega
      generalize hQ:aW (cB ((R.s.take (w)).drop i))=Q at *
      generalize cB ((R.s.take (w)).drop i)=cq at *
      obtain⟨⟨n,sc⟩,e⟩:=Q
      simp only at hpa
      by_cases he:e=0
      ·subst he
       rw[ci]
       simp(maxSteps:=9^7) (disch:=first|exact dI|fail) only[push_cast,seval]
       refine ae htr rfl ?_
       simp(maxSteps:=9^7) (disch:=first|exact dI|fail) only[push_cast,seval]
       refine ae hpa rfl ?_
       simp(maxSteps:=9^7) (disch:=first|exact dI|fail) only[push_cast,seval]
       exact ap [] (by simp(maxSteps:=9^7) (disch:=first|exact dI|fail) only[rdB,rdC,hd1,hd2,push_cast,seval])
      ·rw[cg he]
       have hfa:=hf { R with next:=w,now:={ R.now with dec:=true,exa:=false } } i e
       simp only[rdB,rdC] at hfa
       simp(maxSteps:=9^7) (disch:=first|exact dI|fail) only[push_cast,seval]
       refine ae htr rfl ?_
       simp(maxSteps:=9^7) (disch:=first|exact dI|fail) only[push_cast,seval]
       refine ae hpa rfl ?_
       simp(maxSteps:=9^7) (disch:=first|exact dI|fail) only[he,push_cast,seval]
       refine ab.lentK hfa [0] rfl (by simp(maxSteps:=9^7) (disch:=first|exact dI|fail) only[push_cast,seval]) (by simp(maxSteps:=9^7) (disch:=first|exact dI|fail) only[hd1,hd2,push_cast,seval]) ?_
       simp(maxSteps:=9^7) (disch:=first|exact dI|fail) only[push_cast,seval]
       exact ap [] (by simp(maxSteps:=9^7) (disch:=first|exact dI|fail) only[rdB,rdC,hd1,hd2,push_cast,seval])
    | false=>
      rw[hD] at hd64
      have hno:¬ (R.s[z]? = some 46∧(R.s[z+1]?.any isD)=true):=fun q=>by
       have:=q.2
       rw[hb2] at this
       exact absurd (hD.symm.trans this) (by decide)
      rw[cf ha hz hza (gJ hno (by rw[hb,hb46];decide))]
      simp(maxSteps:=9^7) (disch:=first|exact dI|fail) only[hzl1I,hb,ag,h46,hz1n,hb2,push_cast,seval]
      refine ab.pure hd64 rfl ?_
      have h100:¬ (b.toNat:Int)=100:=by omega
      have htr:=toE (T:=T) (p:=p) (bm ((R.s.take (z)).drop i) (by rw[List.length_drop,List.length_take];omega))
      have hpa:=bp (T:=T) (p:=p) (cB ((R.s.take (z)).drop i))
      have hle:(i:Int)≤((z:Nat):Int):=by omega
      have hle2:((z:Nat):Int)≤(R.s.length:Int):=by omega
      have hleN:z≤R.s.length:=by omega
      generalize hQ:aW (cB ((R.s.take (z)).drop i))=Q at *
      generalize cB ((R.s.take (z)).drop i)=cq at *
      obtain⟨⟨n,sc⟩,e⟩:=Q
      simp only at hpa
      by_cases he:e=0
      ·subst he
       rw[ci]
       simp(maxSteps:=9^7) (disch:=first|exact dI|fail) only[hb,ag,h100,hzl0I,push_cast,seval]
       refine ae htr rfl ?_
       simp(maxSteps:=9^7) (disch:=first|exact dI|fail) only[push_cast,seval]
       refine ae hpa rfl ?_
       simp(maxSteps:=9^7) (disch:=first|exact dI|fail) only[push_cast,seval]
       exact ap [] (by simp(maxSteps:=9^7) (disch:=first|exact dI|fail) only[rdB,rdC,hd1,hd2,push_cast,seval])
      ·rw[cg he]
       have hfa:=hf { R with next:=z,now:={ R.now with dec:=false,exa:=false } } i e
       simp only[rdB,rdC] at hfa
       simp(maxSteps:=9^7) (disch:=first|exact dI|fail) only[hb,ag,h100,hzl0I,push_cast,seval]
       refine ae htr rfl ?_
       simp(maxSteps:=9^7) (disch:=first|exact dI|fail) only[push_cast,seval]
       refine ae hpa rfl ?_
       simp(maxSteps:=9^7) (disch:=first|exact dI|fail) only[he,push_cast,seval]
       refine ab.lentK hfa [0] rfl (by simp(maxSteps:=9^7) (disch:=first|exact dI|fail) only[push_cast,seval]) (by simp(maxSteps:=9^7) (disch:=first|exact dI|fail) only[hd1,hd2,push_cast,seval]) ?_
       simp(maxSteps:=9^7) (disch:=first|exact dI|fail) only[push_cast,seval]
       exact ap [] (by simp(maxSteps:=9^7) (disch:=first|exact dI|fail) only[rdB,rdC,hd1,hd2,push_cast,seval])
   ·have hno:=hdotF b hb (fun q=>h46 (by rw[q];rfl))
    by_cases h100:(b.toNat:Int)=100
    ·have hb100:b=100:=UInt8.toNat_inj.1 (by simpa using (show b.toNat=100 by omega))
     rw[cf ha hz hza (rA hno (by rw[hb,hb100]))]
     have htr:=toE (T:=T) (p:=p) (bm ((R.s.take (z+1)).drop i) (by rw[List.length_drop,List.length_take];omega))
     have hpa:=bp (T:=T) (p:=p) (cB ((R.s.take (z+1)).drop i))
     have hle:(i:Int)≤((z+1:Nat):Int):=by omega
     have hle2:((z+1:Nat):Int)≤(R.s.length:Int):=by omega
     have hleN:z+1≤R.s.length:=by omega
     generalize hQ:aW (cB ((R.s.take (z+1)).drop i))=Q at *
     generalize cB ((R.s.take (z+1)).drop i)=cq at *
     obtain⟨⟨n,sc⟩,e⟩:=Q
     simp only at hpa
     by_cases he:e=0
     ·subst he
      rw[ci]
      simp(maxSteps:=9^7) (disch:=first|exact dI|fail) only[hzl1I,hzl0I,hb,ag,h46,h100,push_cast,seval]
      refine ae htr rfl ?_
      simp(maxSteps:=9^7) (disch:=first|exact dI|fail) only[push_cast,seval]
      refine ae hpa rfl ?_
      simp(maxSteps:=9^7) (disch:=first|exact dI|fail) only[push_cast,seval]
      exact ap [] (by simp(maxSteps:=9^7) (disch:=first|exact dI|fail) only[rdB,rdC,hd1,hd2,push_cast,seval])
     ·rw[cg he]
      have hfa:=hf { R with next:=z+1,now:={ R.now with dec:=true,exa:=true } } i e
      simp only[rdB,rdC] at hfa
      simp(maxSteps:=9^7) (disch:=first|exact dI|fail) only[hzl1I,hzl0I,hb,ag,h46,h100,push_cast,seval]
      refine ae htr rfl ?_
      simp(maxSteps:=9^7) (disch:=first|exact dI|fail) only[push_cast,seval]
      refine ae hpa rfl ?_
      simp(maxSteps:=9^7) (disch:=first|exact dI|fail) only[he,push_cast,seval]
      refine ab.lentK hfa [0] rfl (by simp(maxSteps:=9^7) (disch:=first|exact dI|fail) only[push_cast,seval]) (by simp(maxSteps:=9^7) (disch:=first|exact dI|fail) only[hd1,hd2,push_cast,seval]) ?_
      simp(maxSteps:=9^7) (disch:=first|exact dI|fail) only[push_cast,seval]
      exact ap [] (by simp(maxSteps:=9^7) (disch:=first|exact dI|fail) only[rdB,rdC,hd1,hd2,push_cast,seval])
    ·rw[cf ha hz hza (gJ hno (by rw[hb];intro q;exact h100 (by rw[Option.some.inj q];rfl)))]
     have htr:=toE (T:=T) (p:=p) (bm ((R.s.take (z)).drop i) (by rw[List.length_drop,List.length_take];omega))
     have hpa:=bp (T:=T) (p:=p) (cB ((R.s.take (z)).drop i))
     have hle:(i:Int)≤((z:Nat):Int):=by omega
     have hle2:((z:Nat):Int)≤(R.s.length:Int):=by omega
     have hleN:z≤R.s.length:=by omega
     generalize hQ:aW (cB ((R.s.take (z)).drop i))=Q at *
     generalize cB ((R.s.take (z)).drop i)=cq at *
     obtain⟨⟨n,sc⟩,e⟩:=Q
     simp only at hpa
     by_cases he:e=0
     ·subst he
      rw[ci]
      simp(maxSteps:=9^7) (disch:=first|exact dI|fail) only[hzl1I,hzl0I,hb,ag,h46,h100,push_cast,seval]
      refine ae htr rfl ?_
      simp(maxSteps:=9^7) (disch:=first|exact dI|fail) only[push_cast,seval]
      refine ae hpa rfl ?_
      simp(maxSteps:=9^7) (disch:=first|exact dI|fail) only[push_cast,seval]
      exact ap [] (by simp(maxSteps:=9^7) (disch:=first|exact dI|fail) only[rdB,rdC,hd1,hd2,push_cast,seval])
     ·rw[cg he]
      have hfa:=hf { R with next:=z,now:={ R.now with dec:=false,exa:=false } } i e
      simp only[rdB,rdC] at hfa
      simp(maxSteps:=9^7) (disch:=first|exact dI|fail) only[hzl1I,hzl0I,hb,ag,h46,h100,push_cast,seval]
      refine ae htr rfl ?_
      simp(maxSteps:=9^7) (disch:=first|exact dI|fail) only[push_cast,seval]
      refine ae hpa rfl ?_
      simp(maxSteps:=9^7) (disch:=first|exact dI|fail) only[he,push_cast,seval]
      refine ab.lentK hfa [0] rfl (by simp(maxSteps:=9^7) (disch:=first|exact dI|fail) only[push_cast,seval]) (by simp(maxSteps:=9^7) (disch:=first|exact dI|fail) only[hd1,hd2,push_cast,seval]) ?_
      simp(maxSteps:=9^7) (disch:=first|exact dI|fail) only[push_cast,seval]
      exact ap [] (by simp(maxSteps:=9^7) (disch:=first|exact dI|fail) only[rdB,rdC,hd1,hd2,push_cast,seval])
  ·have hzl1I:¬ (z:Int)+1<(R.s.length:Int):=by omega
   have hno:¬ (R.s[z]? = some 46∧(R.s[z+1]?.any isD)=true):=fun q=>by
    have:=q.2
    rw[List.getElem?_eq_none (by omega)] at this
    cases this
   by_cases hzl0:z<R.s.length
   ·have hzl0I:(z:Int)<(R.s.length:Int):=by omega
    obtain⟨b,hb⟩:∃ b,R.s[z]? = some b:=⟨_,List.getElem?_eq_getElem hzl0⟩
    by_cases h100:(b.toNat:Int)=100
    ·have hb100:b=100:=UInt8.toNat_inj.1 (by simpa using (show b.toNat=100 by omega))
     rw[cf ha hz hza (rA hno (by rw[hb,hb100]))]
     have htr:=toE (T:=T) (p:=p) (bm ((R.s.take (z+1)).drop i) (by rw[List.length_drop,List.length_take];omega))
     have hpa:=bp (T:=T) (p:=p) (cB ((R.s.take (z+1)).drop i))
     have hle:(i:Int)≤((z+1:Nat):Int):=by omega
     have hle2:((z+1:Nat):Int)≤(R.s.length:Int):=by omega
     have hleN:z+1≤R.s.length:=by omega
     generalize hQ:aW (cB ((R.s.take (z+1)).drop i))=Q at *
     generalize cB ((R.s.take (z+1)).drop i)=cq at *
     obtain⟨⟨n,sc⟩,e⟩:=Q
     simp only at hpa
     by_cases he:e=0
     ·subst he
      rw[ci]
      simp(maxSteps:=9^7) (disch:=first|exact dI|fail) only[hzl1I,hzl0I,hb,ag,h100,push_cast,seval]
      refine ae htr rfl ?_
      simp(maxSteps:=9^7) (disch:=first|exact dI|fail) only[push_cast,seval]
      refine ae hpa rfl ?_
      simp(maxSteps:=9^7) (disch:=first|exact dI|fail) only[push_cast,seval]
      exact ap [] (by simp(maxSteps:=9^7) (disch:=first|exact dI|fail) only[rdB,rdC,hd1,hd2,push_cast,seval])
     ·rw[cg he]
      have hfa:=hf { R with next:=z+1,now:={ R.now with dec:=true,exa:=true } } i e
      simp only[rdB,rdC] at hfa
      simp(maxSteps:=9^7) (disch:=first|exact dI|fail) only[hzl1I,hzl0I,hb,ag,h100,push_cast,seval]
      refine ae htr rfl ?_
      simp(maxSteps:=9^7) (disch:=first|exact dI|fail) only[push_cast,seval]
      refine ae hpa rfl ?_
      simp(maxSteps:=9^7) (disch:=first|exact dI|fail) only[he,push_cast,seval]
      refine ab.lentK hfa [0] rfl (by simp(maxSteps:=9^7) (disch:=first|exact dI|fail) only[push_cast,seval]) (by simp(maxSteps:=9^7) (disch:=first|exact dI|fail) only[hd1,hd2,push_cast,seval]) ?_
      simp(maxSteps:=9^7) (disch:=first|exact dI|fail) only[push_cast,seval]
      exact ap [] (by simp(maxSteps:=9^7) (disch:=first|exact dI|fail) only[rdB,rdC,hd1,hd2,push_cast,seval])
    ·rw[cf ha hz hza (gJ hno (by rw[hb];intro q;exact h100 (by rw[Option.some.inj q];rfl)))]
     have htr:=toE (T:=T) (p:=p) (bm ((R.s.take (z)).drop i) (by rw[List.length_drop,List.length_take];omega))
     have hpa:=bp (T:=T) (p:=p) (cB ((R.s.take (z)).drop i))
     have hle:(i:Int)≤((z:Nat):Int):=by omega
     have hle2:((z:Nat):Int)≤(R.s.length:Int):=by omega
     have hleN:z≤R.s.length:=by omega
     generalize hQ:aW (cB ((R.s.take (z)).drop i))=Q at *
     generalize cB ((R.s.take (z)).drop i)=cq at *
     obtain⟨⟨n,sc⟩,e⟩:=Q
     simp only at hpa
     by_cases he:e=0
     ·subst he
      rw[ci]
      simp(maxSteps:=9^7) (disch:=first|exact dI|fail) only[hzl1I,hzl0I,hb,ag,h100,push_cast,seval]
      refine ae htr rfl ?_
      simp(maxSteps:=9^7) (disch:=first|exact dI|fail) only[push_cast,seval]
      refine ae hpa rfl ?_
      simp(maxSteps:=9^7) (disch:=first|exact dI|fail) only[push_cast,seval]
      exact ap [] (by simp(maxSteps:=9^7) (disch:=first|exact dI|fail) only[rdB,rdC,hd1,hd2,push_cast,seval])
     ·rw[cg he]
      have hfa:=hf { R with next:=z,now:={ R.now with dec:=false,exa:=false } } i e
      simp only[rdB,rdC] at hfa
      simp(maxSteps:=9^7) (disch:=first|exact dI|fail) only[hzl1I,hzl0I,hb,ag,h100,push_cast,seval]
      refine ae htr rfl ?_
      simp(maxSteps:=9^7) (disch:=first|exact dI|fail) only[push_cast,seval]
      refine ae hpa rfl ?_
      simp(maxSteps:=9^7) (disch:=first|exact dI|fail) only[he,push_cast,seval]
      refine ab.lentK hfa [0] rfl (by simp(maxSteps:=9^7) (disch:=first|exact dI|fail) only[push_cast,seval]) (by simp(maxSteps:=9^7) (disch:=first|exact dI|fail) only[hd1,hd2,push_cast,seval]) ?_
      simp(maxSteps:=9^7) (disch:=first|exact dI|fail) only[push_cast,seval]
      exact ap [] (by simp(maxSteps:=9^7) (disch:=first|exact dI|fail) only[rdB,rdC,hd1,hd2,push_cast,seval])
   ·have hzl0I:¬ (z:Int)<(R.s.length:Int):=by omega
    rw[cf ha hz hza (gJ hno (by rw[List.getElem?_eq_none (by omega)];intro q;cases q))]
    have htr:=toE (T:=T) (p:=p) (bm ((R.s.take (z)).drop i) (by rw[List.length_drop,List.length_take];omega))
    have hpa:=bp (T:=T) (p:=p) (cB ((R.s.take (z)).drop i))
    have hle:(i:Int)≤((z:Nat):Int):=by omega
    have hle2:((z:Nat):Int)≤(R.s.length:Int):=by omega
    have hleN:z≤R.s.length:=by omega
    generalize hQ:aW (cB ((R.s.take (z)).drop i))=Q at *
    generalize cB ((R.s.take (z)).drop i)=cq at *
    obtain⟨⟨n,sc⟩,e⟩:=Q
    simp only at hpa
    by_cases he:e=0
    ·subst he
     rw[ci]
     simp(maxSteps:=9^7) (disch:=first|exact dI|fail) only[hzl1I,hzl0I,push_cast,seval]
     refine ae htr rfl ?_
     simp(maxSteps:=9^7) (disch:=first|exact dI|fail) only[push_cast,seval]
     refine ae hpa rfl ?_
     simp(maxSteps:=9^7) (disch:=first|exact dI|fail) only[push_cast,seval]
     exact ap [] (by simp(maxSteps:=9^7) (disch:=first|exact dI|fail) only[rdB,rdC,hd1,hd2,push_cast,seval])
    ·rw[cg he]
     have hfa:=hf { R with next:=z,now:={ R.now with dec:=false,exa:=false } } i e
     simp only[rdB,rdC] at hfa
     simp(maxSteps:=9^7) (disch:=first|exact dI|fail) only[hzl1I,hzl0I,push_cast,seval]
     refine ae htr rfl ?_
     simp(maxSteps:=9^7) (disch:=first|exact dI|fail) only[push_cast,seval]
     refine ae hpa rfl ?_
     simp(maxSteps:=9^7) (disch:=first|exact dI|fail) only[he,push_cast,seval]
     refine ab.lentK hfa [0] rfl (by simp(maxSteps:=9^7) (disch:=first|exact dI|fail) only[push_cast,seval]) (by simp(maxSteps:=9^7) (disch:=first|exact dI|fail) only[hd1,hd2,push_cast,seval]) ?_
     simp(maxSteps:=9^7) (disch:=first|exact dI|fail) only[push_cast,seval]
     exact ap [] (by simp(maxSteps:=9^7) (disch:=first|exact dI|fail) only[rdB,rdC,hd1,hd2,push_cast,seval])
end
end Go.Proofs.YtamoeblcphjbaaaGreatDoor
