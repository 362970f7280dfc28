/- A part of the proof. -/
import Derived.Test.YtbaaokocnegdoaaGreatDoorAgWU
import Derived.Test.YtbaaokocnegdoaaGreatDoorAgW9
set_option linter.unusedVariables false
set_option linter.unusedSimpArgs false
set_option maxHeartbeats 16000000
set_option maxRecDepth 100000
namespace Go.Proofs.YtbaaokocnegdoaaGreatDoor
open Go Go.Ab
attribute [local irreducible] vc
theorem tA {l:List UInt8}{i:Nat}(h:i<l.length):∃ b,l[i]? = some b:=⟨_,List.getElem?_eq_getElem h⟩
theorem Ev (l:List UInt8)(hmax:l.length<=9223372036854775807):ae Tryz.prog au 165 [.str l] (.tup [.int .i64 (lM l).1,.int .i64 (lM l).2]):=by
 by_cases hne:l=[]
 ·subst hne;exact Ew
 have hl0:0<l.length:=List.length_pos_iff.2 hne
 obtain⟨b,hb⟩:=tA hl0
 have h0:=fV hb
 have hbl:b.toNat<256:=UInt8.toNat_lt _
 by_cases c1:b.toNat<128
 ·refine T2 l b hb c1 hmax (lM l) ?_
  rw[SP hne (by omega),h0,if_pos (by omega),eT,if_pos (show cH l 1=true from rfl)]
  have e1:l.take 1=[b]:=by rw[aG hb];rfl
  have e2:ry b.toNat=[b]:=by rw[ry,if_pos c1];simp
  have e3:jz b.toNat=true:=by simp[jz];omega
  show _=if jz b.toNat=true/\ry b.toNat=l.take 1 then (b.toNat,1) else (0,0)
  rw[if_pos ⟨e3,by rw[e1,e2]⟩]
 by_cases c2:b.toNat<192
 ·have:=vM l b hb (.inl ⟨by omega,c2⟩)
  rwa [Ex hne (by omega)]
 by_cases c3:b.toNat<224
 ·refine T1 l b hb (b.toNat - 192) (by omega) ⟨by omega,c3⟩ hmax (lM l) ?_
  rw[SO hne (by omega),h0]
  by_cases hlen:2<=l.length
  ·obtain⟨c,hc⟩:=tA (l:=l) (i:=1) (by omega)
   have h1:=fV hc
   rw[if_pos hlen,h1,eT]
   by_cases k1:128<=c.toNat/\c.toNat<192
   ·have hcu:cH l 2=true:=by simp[cH,ja,h1,k1]
    have hacc:accP l (b.toNat - 192) (2 - 1)=64*(b.toNat - 192)+(c.toNat - 128):=by simp[accP,h1]
    have henc:=SE ⟨by omega,c3⟩ k1
    rw[if_pos hcu,hacc,JL hb hc]
    have hpt:jz (64*(b.toNat - 192)+(c.toNat - 128))=true:=by simp[jz];omega
    by_cases k2:128<=64*(b.toNat - 192)+(c.toNat - 128)
    ·rw[if_pos ⟨by omega,k1,k2⟩,if_pos ⟨hpt,henc.2 k2⟩]
    ·rw[if_neg (fun h=>k2 h.2.2),if_neg (fun h=>k2 (henc.1 h.2))]
   ·have hcu:cH l 2=false:=by
     refine ba (k:=0) ?_ (by omega)
     simp[h1];omega
    rw[if_neg (fun h=>k1 h.2.1),if_neg (by rw[hcu];simp)]
  ·rw[if_neg hlen,if_neg (by omega)]
 by_cases c4:b.toNat<240
 ·refine TZ l b hb (b.toNat - 224) (by omega) ⟨by omega,c4⟩ hmax (lM l) ?_
  rw[SN hne (by omega),h0]
  by_cases hlen:3<=l.length
  ·obtain⟨c,hc⟩:=tA (l:=l) (i:=1) (by omega)
   obtain⟨d,hd⟩:=tA (l:=l) (i:=2) (by omega)
   have h1:=fV hc
   have h2:=fV hd
   rw[if_pos hlen,h1,h2,eT]
   by_cases k1:128<=c.toNat/\c.toNat<192
   ·by_cases k2:128<=d.toNat/\d.toNat<192
    ·have hcu:cH l 3=true:=by simp[cH,ja,h1,h2,k1,k2]
     have hacc:accP l (b.toNat - 224) (3 - 1)=4096*(b.toNat - 224)+64*(c.toNat - 128)+(d.toNat - 128):=by simp[accP,h1,h2];omega
     have henc:=SD ⟨by omega,c4⟩ k1 k2
     rw[if_pos hcu,hacc,JK hb hc hd]
     have hp:4096*(b.toNat - 224)+64*(c.toNat - 128)+(d.toNat - 128)<=65535:=by omega
     generalize 4096*(b.toNat - 224)+64*(c.toNat - 128)+(d.toNat - 128)=p at *
     have hpt:jz p=true↔(p<55296\/57343<p):=by simp[jz];omega
     by_cases k3:2048<=p/\(p<55296\/57343<p)
     ·rw[if_pos ⟨by omega,k1,k2,k3⟩,if_pos ⟨hpt.2 k3.2,henc.2 k3.1⟩]
     ·rw[if_neg (fun h=>k3 h.2.2.2),if_neg (fun h=>k3 ⟨henc.1 h.2,hpt.1 h.1⟩)]
    ·have hcu:cH l 3=false:=by
      refine ba (k:=1) ?_ (by omega)
      simp[h2];omega
     rw[if_neg (fun h=>k2 h.2.2.1),if_neg (by rw[hcu];simp)]
   ·have hcu:cH l 3=false:=by
     refine ba (k:=0) ?_ (by omega)
     simp[h1];omega
    rw[if_neg (fun h=>k1 h.2.1),if_neg (by rw[hcu];simp)]
  ·rw[if_neg hlen,if_neg (by omega)]
 by_cases c5:b.toNat<248
 ·refine TY l b hb (b.toNat - 240) (by omega) ⟨by omega,c5⟩ hmax (lM l) ?_
  rw[SM hne (by omega),h0]
  by_cases hlen:4<=l.length
  ·obtain⟨c,hc⟩:=tA (l:=l) (i:=1) (by omega)
   obtain⟨d,hd⟩:=tA (l:=l) (i:=2) (by omega)
   obtain⟨e,he⟩:=tA (l:=l) (i:=3) (by omega)
   have h1:=fV hc
   have h2:=fV hd
   have h3:=fV he
   rw[if_pos hlen,h1,h2,h3,eT]
   by_cases k1:128<=c.toNat/\c.toNat<192
   ·by_cases k2:128<=d.toNat/\d.toNat<192
    ·by_cases k3:128<=e.toNat/\e.toNat<192
     ·have hcu:cH l 4=true:=by simp[cH,ja,h1,h2,h3,k1,k2,k3]
      have hacc:accP l (b.toNat - 240) (4 - 1)=262144*(b.toNat - 240)+4096*(c.toNat - 128)+64*(d.toNat - 128)+(e.toNat - 128):=by simp[accP,h1,h2,h3];omega
      have henc:=SC ⟨by omega,c5⟩ k1 k2 k3
      rw[if_pos hcu,hacc,OH hb hc hd he]
      have hp:262144*(b.toNat - 240)+4096*(c.toNat - 128)+64*(d.toNat - 128)+(e.toNat - 128)<=2097151:=by omega
      generalize 262144*(b.toNat - 240)+4096*(c.toNat - 128)+64*(d.toNat - 128)+(e.toNat - 128)=p at *
      by_cases k5:p<=1114111
      ·have henc:=henc k5
       by_cases k4:65536<=p
       ·have hpt:jz p=true:=by simp[jz];omega
        rw[if_pos ⟨by omega,k1,k2,k3,k4,k5⟩,if_pos ⟨hpt,henc.2 k4⟩]
       ·rw[if_neg (fun h=>k4 h.2.2.2.2.1),if_neg (fun h=>k4 (henc.1 h.2))]
      ·have hpt:¬ jz p=true:=by simp[jz];omega
       rw[if_neg (fun h=>k5 h.2.2.2.2.2),if_neg (fun h=>hpt h.1)]
     ·have hcu:cH l 4=false:=by
       refine ba (k:=2) ?_ (by omega)
       simp[h3];omega
      rw[if_neg (fun h=>k3 h.2.2.2.1),if_neg (by rw[hcu];simp)]
    ·have hcu:cH l 4=false:=by
      refine ba (k:=1) ?_ (by omega)
      simp[h2];omega
     rw[if_neg (fun h=>k2 h.2.2.1),if_neg (by rw[hcu];simp)]
   ·have hcu:cH l 4=false:=by
     refine ba (k:=0) ?_ (by omega)
     simp[h1];omega
    rw[if_neg (fun h=>k1 h.2.1),if_neg (by rw[hcu];simp)]
  ·rw[if_neg hlen,if_neg (by omega)]
 ·have:=vM l b hb (.inr (by omega))
  rwa [Ex hne (by omega)]
def eP (l:List UInt8):Nat->Nat->Int
 | 0,_=>-1
 | f+1,m=>if m<l.length then (if (lM (l.drop m)).2=0 then (m:Int) else eP l f (m+(lM (l.drop m)).2)) else -1
theorem jp (l:List UInt8):∀ (f m:Nat),l.length - m<=f->m<=l.length->(Lib.validD (l.drop m)=true->eP l f m = -1)/\(Lib.validD (l.drop m)=false->0<=eP l f m)
 | 0,m,h,hm=>by
   have e:l.drop m=[]:=List.drop_eq_nil_of_le (by omega)
   rw[e,Lib.validD_nil]
   exact⟨fun _=>rfl,fun h=>by cases h⟩
 | f+1,m,h,hm=>by
   by_cases hlt:m<l.length
   ·have hne:l.drop m≠[]:=by intro e;have:=congrArg List.length e;rw[List.length_drop,List.length_nil] at this;omega
    rw[wB hne,eP,if_pos hlt]
    by_cases hw:(lM (l.drop m)).2=0
    ·rw[if_pos hw,if_pos hw]
     exact⟨fun h=>(by cases h),fun _=>by omega⟩
    ·rw[if_neg hw,if_neg hw,List.drop_drop]
     have hle:=Kq (l.drop m)
     rw[List.length_drop] at hle
     have:=jp l f (m+(lM (l.drop m)).2) (by omega) (by omega)
     exact this
   ·have e:l.drop m=[]:=List.drop_eq_nil_of_le (by omega)
    rw[e,Lib.validD_nil,eP,if_neg hlt]
    exact⟨fun _=>rfl,fun h=>by cases h⟩
theorem M8 (l:List UInt8)(hmax:l.length<=9223372036854775807):ae Tryz.prog au 115 [.str l] (.int .i64 (eP l l.length 0)):=by
 refine ae.intro TB.2 (by simp[TB]) ?_
 generalize hZ:eP l l.length 0=Z
 simp(disch:=try exact dI) only[TB,push_cast,seval]
 refine aC ([]) (fun m:Nat=>[(3,.pv (.int .i64 (m:Int)))]) (fun m=>[]) (fun m=>m<=l.length/\∃ f,l.length - m<=f/\Z=eP l f m) (fun m=>l.length - m) (0) ?_;intro e0 σ0 n0 h0;simp(disch:=try exact dI) only[push_cast,seval] at h0;obtain⟨rfl,rfl,rfl⟩:=h0;refine⟨?_,?_,?_⟩
 ·exact qsZ
 ·exact⟨by omega,l.length,by omega,hZ.symm⟩
 ·rintro m ⟨hm,f,hf,he⟩
  by_cases hlt:m<l.length
  ·have hltI:(m:Int)<l.length:=by omega
   have hcall:=Ev (l.drop m) (by rw[List.length_drop];omega)
   have hle:=Kq (l.drop m)
   rw[List.length_drop] at hle
   obtain⟨f',rfl⟩:∃ f',f=f'+1:=⟨f - 1,by omega⟩
   rw[eP,if_pos hlt] at he
   generalize hw:lM (l.drop m)=w at *
   obtain⟨w1,w2⟩:=w
   simp only at hcall hle he
   simp(disch:=try exact dI) only[List.take_length,push_cast,seval]
   refine ab.pure hcall rfl ?_
   by_cases h0:w2=0
   ·have h0I:(w2:Int)=0:=by omega
    rw[if_pos h0] at he
    rw[he]
    exact qsZ
   ·have h0I:¬ (w2:Int)=0:=by omega
    rw[if_neg h0] at he
    refine zgZ ?_
    exact⟨m+w2,aR qsZ,⟨by omega,f',by omega,he⟩,by omega⟩
  ·have hltI:¬ (m:Int)<l.length:=by omega
   have:Z = -1:=by
    rw[he]
    cases f with
    | zero=>rfl
    | succ f=>rw[eP,if_neg hlt]
   rw[this]
   exact qsZ
def upJ (f:List Fld)(j:Nat):Bool:=bd (((f[j]?).map Fld.name).getD []) (((f[j+1]?).map Fld.name).getD [])
def upB (f:List Fld):Bool:=ja (upJ f) (f.length - 1)
def az:Val->Bool
 | .mk k i s t l f=>
   if k=1 then (decide (i=0)||decide (i=1))&&(decide (s=0)&&(decide (t=[])&&(decide (l.length=0)&&decide (f.length=0))))
   else if k=2\/k=6\/k=7 then decide (s=0)&&(decide (t=[])&&(decide (l.length=0)&&decide (f.length=0)))
   else if k=3 then decide (t=[])&&(decide (l.length=0)&&decide (f.length=0))
   else if k=4 then Lib.validD t&&(decide (i=0)&&(decide (s=0)&&(decide (l.length=0)&&decide (f.length=0))))
   else if k=5 then decide (i=0)&&(decide (s=0)&&(decide (l.length=0)&&decide (f.length=0)))
   else if k=8 then decide (i=0)&&(decide (s=0)&&(decide (t=[])&&decide (f.length=0)))
   else if k=9 then upB f&&(decide (i=0)&&(decide (s=0)&&(decide (t=[])&&decide (l.length=0))))
   else if k=10 then decide (l.length=1)&&(decide (i=0)&&(decide (s=0)&&decide (f.length=0)))
   else decide (i=0)&&(decide (s=0)&&(decide (t=[])&&(decide (l.length=0)&&decide (f.length=0))))
theorem FS (s:List UInt8):ae Tryz.prog au 178 [.str s] (.bool (Lib.validD s)):=by
 refine ae.intro Tw.2 (by simp[Tw]) ?_
 simp(disch:=try exact dI) only[Tw,push_cast,seval]
 refine ab.pure (fP s) rfl ?_
 exact qsZ
theorem IH (v:Val)(hm:v.fields.length<=9000000000000)(hm2:v.lst.length<=9000000000000)(ht0:v.text.length<=140737488351232):ae Tryz.prog au 130 [v.pv] (.bool (az v)):=by
 obtain⟨k,i,s,t,l,f⟩:=v
 simp only[Val.fields,Val.lst,Val.text] at hm hm2 ht0
 obtain⟨R,hR⟩:∃ R,R=az (.mk k i s t l f):=⟨_,rfl⟩
 rw[<- hR]
 refine ae.intro NZ.2 (by simp[NZ]) ?_
 by_cases hk9:k=9
 ·subst hk9
  simp(disch:=try exact dI) only[NZ,Val.pv_mk,push_cast,seval]
  refine aC ([]) (fun m:Nat=>[(4,.pv (.int .i64 ((m:Int)+1)))]) (fun m=>[]) (fun m=>m<=f.length - 1/\ja (upJ f) m=true) (fun m=>f.length - 1 - m) (0) ?_;intro e0 σ0 n0 h0;simp(disch:=try exact dI) only[push_cast,seval] at h0;obtain⟨rfl,rfl,rfl⟩:=h0;refine⟨?_,?_,?_⟩
  ·simp(disch:=try exact dI) only[Int.zero_add,push_cast,seval]
  ·exact⟨by omega,by simp[ja]⟩
  ·rintro m ⟨hm,hpre⟩
   by_cases hlt:m<f.length - 1
   ·have hltI:(m:Int)+1<f.length:=by omega
    have hsub:(m:Int)+1 - 1=m:=by omega
    obtain⟨x,hx⟩:∃ x,f[m]? = some x:=⟨_,List.getElem?_eq_getElem (by omega)⟩
    obtain⟨y,hy⟩:∃ y,f[m+1]? = some y:=⟨_,List.getElem?_eq_getElem (by omega)⟩
    have hu:upJ f m=bd x.name y.name:=by simp[upJ,hx,hy]
    obtain⟨xn,⟨x1,x2,x3,x4,x5,x6⟩⟩:=x
    obtain⟨yn,⟨y1,y2,y3,y4,y5,y6⟩⟩:=y
    simp only[Fld.name] at hu
    cases hb:bd xn yn with
    | false=>
      have hU:upB f=false:=by
       cases hU:upB f with
       | false=>rfl
       | true=>
         have hh:=fG.1 hU m hlt
         rw[hu,hb] at hh;cases hh
      obtain rfl:R=false:=by rw[hR];simp[az,hU]
      simp(disch:=try exact dI) only[hx,hy,hsub,Fld.pv_mk,Val.pv_mk,hb,push_cast,seval]
    | true=>
      simp(disch:=try exact dI) only[hx,hy,hsub,Fld.pv_mk,Val.pv_mk,hb,push_cast,seval]
      exact⟨m+1,aR qsZ,⟨by omega,by rw[ja,hpre,hu,hb];rfl⟩,by omega⟩
   ·have hltI:¬ (m:Int)+1<f.length:=by omega
    obtain rfl:m=f.length - 1:=by omega
    have hU:upB f=true:=hpre
    by_cases hi:i=0<;>by_cases hs:s=0<;>by_cases ht:t=[]<;>by_cases hl:l.length=0
    all_goals
     simp[az, *] at hR
     subst hR
     simp(disch:=try exact dI) only[*,push_cast,seval]
 by_cases hk4:k=4
 ·subst hk4
  have hv:=FS t
  generalize hV:Lib.validD t=V at hv
  cases V<;>by_cases hi:i=0<;>by_cases hs:s=0<;>by_cases hl:l.length=0<;>by_cases hf:f.length=0
  all_goals
   simp[az, *] at hR
   subst hR
   simp(disch:=try exact dI) only[NZ,Val.pv_mk, *,push_cast,seval]
   refine ab.pure hv rfl ?_
   simp(disch:=try exact dI) only[*,push_cast,seval]
 have hc:k=1\/k=2\/k=6\/k=7\/k=3\/k=5\/k=8\/k=10\/(¬ k=1/\¬ k=2/\¬ k=6/\¬ k=7/\¬ k=3/\¬ k=5/\¬ k=8/\¬ k=10):=by omega
 rcases hc with rfl | rfl | rfl | rfl | rfl | rfl | rfl | rfl | hc
 case' inl=>by_cases hi:i=0<;>by_cases hj:i=1<;>(try omega)<;>by_cases hs:s=0<;>by_cases ht:t=[]<;>by_cases hl:l.length=0<;>by_cases hf:f.length=0
 iterate 3 (case' inl=>by_cases hs:s=0<;>by_cases ht:t=[]<;>by_cases hl:l.length=0<;>by_cases hf:f.length=0)
 case' inl=>by_cases ht:t=[]<;>by_cases hl:l.length=0<;>by_cases hf:f.length=0
 case' inl=>by_cases hi:i=0<;>by_cases hs:s=0<;>by_cases hl:l.length=0<;>by_cases hf:f.length=0
 case' inl=>by_cases hi:i=0<;>by_cases hs:s=0<;>by_cases ht:t=[]<;>by_cases hf:f.length=0
 case' inl=>by_cases hn:l.length=1<;>by_cases hi:i=0<;>by_cases hs:s=0<;>by_cases hf:f.length=0
 case' inr=>by_cases hi:i=0<;>by_cases hs:s=0<;>by_cases ht:t=[]<;>by_cases hl:l.length=0<;>by_cases hf:f.length=0
 all_goals
  simp[az, *] at hR
  subst hR
  simp(disch:=try exact dI) only[NZ,Val.pv_mk, *,push_cast,seval]
theorem II (v:Val)(hm:v.fields.length<=9000000000000)(hm2:v.lst.length<=9000000000000)(ht0:v.text.length<=140737488351232):ae Tryz.prog au 61 [v.pv] (.bool (az v)):=by
 obtain⟨k,i,s,t,l,f⟩:=v
 simp only[Val.fields,Val.lst,Val.text] at hm hm2 ht0
 obtain⟨R,hR⟩:∃ R,R=az (.mk k i s t l f):=⟨_,rfl⟩
 rw[<- hR]
 refine ae.intro Q61.2 (by simp[Q61]) ?_
 by_cases hk9:k=9
 ·subst hk9
  by_cases hi:i=0<;>by_cases hs:s=0<;>by_cases ht:t=[]<;>by_cases hl:l.length=0
  case' pos=>
   simp(disch:=try exact dI) only[Q61,Val.pv_mk,hi,hs,ht,push_cast,seval]
   refine aC ([]) (fun m:Nat=>[(7,.pv (.int .i64 ((m:Int)+1)))]) (fun m=>[]) (fun m=>m<=f.length - 1/\ja (upJ f) m=true) (fun m=>f.length - 1 - m) (0) ?_;intro e0 σ0 n0 h0;simp(disch:=try exact dI) only[push_cast,seval] at h0;obtain⟨rfl,rfl,rfl⟩:=h0;refine⟨?_,?_,?_⟩
   ·simp(disch:=try exact dI) only[Int.zero_add,push_cast,seval]
   ·exact⟨by omega,by simp[ja]⟩
   rintro m ⟨hm,hpre⟩
   by_cases hlt:m<f.length - 1
   ·have hltI:(m:Int)+1<f.length:=by omega
    have hsub:(m:Int)+1 - 1=m:=by omega
    obtain⟨x,hx⟩:∃ x,f[m]? = some x:=⟨_,List.getElem?_eq_getElem (by omega)⟩
    obtain⟨y,hy⟩:∃ y,f[m+1]? = some y:=⟨_,List.getElem?_eq_getElem (by omega)⟩
    have hu:upJ f m=bd x.name y.name:=by simp[upJ,hx,hy]
    obtain⟨xn,⟨x1,x2,x3,x4,x5,x6⟩⟩:=x
    obtain⟨yn,⟨y1,y2,y3,y4,y5,y6⟩⟩:=y
    simp only[Fld.name] at hu
    cases hb:bd xn yn with
    | false=>
      have hU:upB f=false:=by
       cases hU:upB f with
       | false=>rfl
       | true=>
         have hh:=fG.1 hU m hlt
         rw[hu,hb] at hh;cases hh
      obtain rfl:R=false:=by rw[hR];simp[az,hU]
      simp(disch:=try exact dI) only[hx,hy,hsub,Fld.pv_mk,Val.pv_mk,hb,push_cast,seval]
    | true=>
      simp(disch:=try exact dI) only[hx,hy,hsub,Fld.pv_mk,Val.pv_mk,hb,push_cast,seval]
      exact⟨m+1,aR qsZ,⟨by omega,by rw[ja,hpre,hu,hb];rfl⟩,by omega⟩
   ·have hltI:¬ (m:Int)+1<f.length:=by omega
    obtain rfl:m=f.length - 1:=by omega
    have hU:upB f=true:=hpre
    simp[az, *] at hR
    subst hR
    exact qsZ
  all_goals
   simp[az, *] at hR
   subst hR
   simp(disch:=try exact dI) only[Q61,Val.pv_mk, *,push_cast,seval]
 by_cases hk4:k=4
 ·subst hk4
  obtain⟨hv1,hv2⟩:=jp t t.length 0 (by omega) (by omega)
  rw[List.drop_zero] at hv1 hv2
  have h90:=M8 t (by omega)
  by_cases hi:i=0<;>by_cases hs:s=0<;>by_cases hl:l.length=0<;>by_cases hf:f.length=0
  case' pos=>
   cases hV:Lib.validD t with
   | false=>
     have hz:(0:Int)<=eP t t.length 0:=hv2 hV
     simp[az,hV,hi,hs,hl,hf] at hR
     subst hR
     simp(disch:=try exact dI) only[Q61,Val.pv_mk,hi,hs,push_cast,seval]
     refine ab.pure h90 rfl ?_
     simp(disch:=try exact dI) only[hi,hs,push_cast,seval]
   | true=>
     have hz:¬ (0:Int)<=eP t t.length 0:=by rw[hv1 hV];omega
     simp[az,hV,hi,hs,hl,hf] at hR
     subst hR
     simp(disch:=try exact dI) only[Q61,Val.pv_mk,hi,hs,push_cast,seval]
     refine ab.pure h90 rfl ?_
     simp(disch:=try exact dI) only[hi,hs,push_cast,seval]
     refine aC ([]) (fun m:Nat=>[]) (fun m=>[]) (fun m=>True) (fun m=>0) (0) ?_;intro e0 σ0 n0 h0;simp(disch:=try exact dI) only[push_cast,seval] at h0;obtain⟨rfl,rfl,rfl⟩:=h0;refine⟨?_,?_,?_⟩
     ·exact qsZ
     ·trivial
     ·intro m _
      have hz:¬ (1:Int)<f.length:=by omega
      exact qsZ
  all_goals
   simp[az,hi,hs,hl,hf] at hR
   subst hR
   simp(disch:=try exact dI) only[Q61,Val.pv_mk,hi,hs,push_cast,seval]
 have hc:k=1\/k=2\/k=6\/k=7\/k=3\/k=5\/k=8\/k=10\/(¬ k=1/\¬ k=2/\¬ k=6/\¬ k=7/\¬ k=3/\¬ k=5/\¬ k=8/\¬ k=10):=by omega
 rcases hc with rfl | rfl | rfl | rfl | rfl | rfl | rfl | rfl | hc
 case' inl=>by_cases hi:i=0<;>by_cases hj:i=1<;>(try omega)<;>by_cases hs:s=0<;>by_cases ht:t=[]<;>by_cases hl:l.length=0<;>by_cases hf:f.length=0
 iterate 3 (case' inl=>by_cases hs:s=0<;>by_cases ht:t=[]<;>by_cases hl:l.length=0<;>by_cases hf:f.length=0)
 case' inl=>by_cases ht:t=[]<;>by_cases hl:l.length=0<;>by_cases hf:f.length=0
 case' inl=>by_cases hi:i=0<;>by_cases hs:s=0<;>by_cases hl:l.length=0<;>by_cases hf:f.length=0
 case' inl=>by_cases hi:i=0<;>by_cases hs:s=0<;>by_cases ht:t=[]<;>by_cases hf:f.length=0
 case' inl=>by_cases hn:l.length=1<;>by_cases hi:i=0<;>by_cases hs:s=0<;>by_cases hf:f.length=0
 case' inr=>by_cases hi:i=0<;>by_cases hs:s=0<;>by_cases ht:t=[]<;>by_cases hl:l.length=0<;>by_cases hf:f.length=0
 all_goals
  simp[az, *] at hR
  subst hR
  simp(disch:=try exact dI) only[Q61,Val.pv_mk, *,push_cast,seval]
 all_goals
  refine aC ([]) (fun m:Nat=>[]) (fun m=>[]) (fun m=>True) (fun m=>0) (0) ?_;intro e0 σ0 n0 h0;simp(disch:=try exact dI) only[push_cast,seval] at h0;obtain⟨rfl,rfl,rfl⟩:=h0;refine⟨?_,?_,?_⟩
  ·simp(disch:=try exact dI) only[*,push_cast,seval]
  ·trivial
  ·intro m _
   have hz:¬ (1:Int)<f.length:=by omega
   simp(disch:=try exact dI) only[*,push_cast,seval]
def bZ (p n:List UInt8):List UInt8:=if p=[] then n else p++(46::n)
theorem ul (p n:List UInt8)(hp:p.length<=1000000)(hn:n.length<=1000000):ae Tryz.prog au 180 [.str p,.str n] (.str (bZ p n)):=by
 refine ae.intro Oq.2 (by simp[Oq]) ?_
 by_cases h:p=[]
 ·rw[bZ,if_pos h]
  simp(disch:=try exact dI) only[Oq,h,push_cast,seval]
 ·rw[bZ,if_neg h]
  simp(disch:=try exact dI) only[Oq,h,push_cast,seval]
theorem Ke (p n:List UInt8)(hp:p.length<=1000000)(hn:n.length<=1000000):ae Tryz.prog au 118 [.str p,.str n] (.str (bZ p n)):=by
 refine ae.intro RJ.2 (by simp[RJ]) ?_
 by_cases h:p=[]
 ·rw[bZ,if_pos h]
  simp(disch:=try exact dI) only[RJ,h,push_cast,seval]
 ·rw[bZ,if_neg h]
  simp(disch:=try exact dI) only[RJ,h,push_cast,seval]
def jS (mn mx:Int)(p:List UInt8)(n:Int):List Mis:=if n<mn\/mx<n then [.mk p 2] else []
theorem uQ {mn mx n:Int}{p:List UInt8}(h:n<mn\/mx<n):jS mn mx p n=[.mk p 2]:=if_pos h
theorem J7 {mn mx n:Int}{p:List UInt8}(h:¬ (n<mn\/mx<n)):jS mn mx p n=[]:=if_neg h
def ixM {α β:Type}(F:α->Nat->List β)(l:List α):List β:=l.zipIdx.flatMap fun q=>F q.1 q.2
theorem gS {α β:Type}(F:α->List β){l:List α}{m:Nat}{x:α}(h:l[m]? = some x):(l.take (m+1)).flatMap F=(l.take m).flatMap F++F x:=by
 rw[aG h];simp
def atT (p:List UInt8)(i:Nat):List UInt8:=p++(91::(gi i++[93]))
def SF (R:Typ->Val->List UInt8->List Mis)(e:List Typ)(p:List UInt8)(x:Val)(i:Nat):List Mis:=
 match e with
 | [t]=>R t x (atT p i)
 | _=>[.mk (atT p i) 1]
def dt (R:Typ->Val->List UInt8->List Mis)(fs:List Fld)(p:List UInt8)(x:TFd):List Mis:=
 match fs.find? (aU x.name) with
 | some y=>R x.typ y.value (bZ p x.name)
 | none=>if x.need=2 then [] else [.mk (bZ p x.name) 5]
def eO (ts:List TFd)(p:List UInt8)(x:Fld):List Mis:=if (ts.find? (named x.name)).isSome=true then [] else [.mk (bZ p x.name) 6]
theorem bM {R:Typ->Val->List UInt8->List Mis}{fs:List Fld}{p:List UInt8}{x:TFd}{y:Fld}(h:fs.find? (aU x.name)=some y):dt R fs p x=R x.typ y.value (bZ p x.name):=by
 unfold dt;rw[h]
theorem cL {R:Typ->Val->List UInt8->List Mis}{fs:List Fld}{p:List UInt8}{x:TFd}(h:fs.find? (aU x.name)=none)(hn:x.need=2):dt R fs p x=[]:=by
 unfold dt;rw[h];exact if_pos hn
theorem cl {R:Typ->Val->List UInt8->List Mis}{fs:List Fld}{p:List UInt8}{x:TFd}(h:fs.find? (aU x.name)=none)(hn:¬ x.need=2):dt R fs p x=[.mk (bZ p x.name) 5]:=by
 unfold dt;rw[h];exact if_neg hn
theorem ga {ts:List TFd}{p:List UInt8}{x:Fld}{z:TFd}(h:ts.find? (named x.name)=some z):eO ts p x=[]:=by
 unfold eO;rw[h];exact if_pos rfl
theorem gd {ts:List TFd}{p:List UInt8}{x:Fld}(h:ts.find? (named x.name)=none):eO ts p x=[.mk (bZ p x.name) 6]:=by
 unfold eO;rw[h];exact if_neg (by simp)
def r5 (R:Typ->Val->List UInt8->List Mis)(t:Typ)(v:Val)(p:List UInt8):List Mis:=t.fields.flatMap (dt R v.fields p)++v.fields.flatMap (eO t.fields p)
def TO (R:Typ->Val->List UInt8->List Mis)(t:Typ)(v:Val)(p:List UInt8):List Mis:=
 match t.fields.find? (named v.text) with
 | some c=>R c.typ (v.lst.headD aJ) (p++(63::v.text))
 | none=>[.mk p 7]
def bW (R:Typ->Val->List UInt8->List Mis)(t:Typ)(v:Val)(p:List UInt8):List Mis:=
 if t.kind<1\/10<t.kind\/¬ v.kind=t.kind then [.mk p 1]
 else if az v=false then [.mk p 8]
 else if t.kind=2\/t.kind=6\/t.kind=7 then jS t.min t.max p v.num
 else if t.kind=3 then (if v.scale=t.scale then jS t.min t.max p v.num else [.mk p 3])
 else if t.kind=4\/t.kind=5 then (if t.kind=4/\0<t.words.length then (if (t.words.any fun x=>decide (x=v.text))=true then [] else [.mk p 4]) else jS t.min t.max p v.text.length)
 else if t.kind=8 then jS t.min t.max p v.lst.length++ixM (SF R t.elem p) v.lst
 else if t.kind=9 then r5 R t v p
 else if t.kind=10 then TO R t v p
 else []
def aK:Nat->Typ->Val->List UInt8->List Mis
 | 0=>fun _ _ _=>[]
 | n+1=>bW (aK n)
def dep:Nat->Val->Prop
 | 0,_=>False
 | n+1,v=>v.lst.length<=300/\v.fields.length<=300/\v.text.length<=5000/\(∀ x∈v.lst,dep n x)/\∀ f∈v.fields,f.name.length<=100/\dep n f.value
def eI:Nat->Typ->Prop
 | 0,_=>True
 | n+1,t=>t.fields.length<=300/\t.words.length<=300/\(∀ e∈t.elem,eI n e)/\∀ f∈t.fields,f.name.length<=100/\eI n f.typ
def Sg (d:Bool)(l:List Mis):Prop:=l.length<=64/\(d=false->l.length<64)
theorem ft (p n:List UInt8):(bZ p n).length<=p.length+n.length+1:=by
 unfold bZ;split
 ·omega
 ·simp only[List.length_append,List.length_cons];omega
end Go.Proofs.YtbaaokocnegdoaaGreatDoor
