/- A part. -/
import Derived.Test.YtbaaokocnegdoaaGreatDoorEnVC25
set_option linter.unusedVariables false
set_option linter.unusedSimpArgs false
set_option maxHeartbeats 16000000
set_option maxRecDepth 100000
open Bool renaming and_eq_true->Vr,and_eq_false_iff->WN
open Int renaming add_sub_cancel->VD
open List renaming getElem?_eq_getElem->Vg,drop_eq_nil_of_le->Wi,length_drop->Wu
open Nat renaming add_sub_cancel->V5
namespace Go.Proofs.YtbaaokocnegdoaaGreatDoor
open Go Go.Ab
attribute [local irreducible] vc
theorem bY (p:Nat)(hp:p<=1000000000):ae Tryz.prog aq 221 [.int .i64 p] (.bool (ka p)):=by
 refine ae.intro OI.2 (by simp[OI]) ?_
 by_cases h1:p<=1114111
 ·have h1I:(p:Int)<=1114111:=by omega
  by_cases h2:p<55296
  ·have h2I:(p:Int)<55296:=by omega
   simp(disch:=try exact dI) only[OI,ka,Bool.true_or,push_cast,seval]
  ·have h2I:¬ (p:Int)<55296:=by omega
   by_cases h3:57343<p
   ·have h3I:(57343:Int)<p:=by omega
    simp(disch:=try exact dI) only[OI,ka,push_cast,seval]
    simp[h3]
   ·have h3I:¬ (57343:Int)<p:=by omega
    simp(disch:=try exact dI) only[OI,ka,push_cast,seval]
    simp[h3]
 ·have h1I:¬ (p:Int)<=1114111:=by omega
  simp(disch:=try exact dI) only[OI,ka,push_cast,seval]
theorem cS (p:Nat)(hp:p<=1114111):ae Tryz.prog aq 222 [.int .i64 p] (.str (sm p)):=by
 refine ae.intro OH.2 (by simp[OH]) ?_
 have e1:((192:Int)+(p:Int) / 64).toNat=192+p / 64:=by omega
 have e2:((128:Int)+(p:Int) % 64).toNat=128+p % 64:=by omega
 have e3:((224:Int)+(p:Int) / 4096).toNat=224+p / 4096:=by omega
 have e4:((128:Int)+(p:Int) / 64 % 64).toNat=128+p / 64 % 64:=by omega
 have e5:((240:Int)+(p:Int) / 262144).toNat=240+p / 262144:=by omega
 have e6:((128:Int)+(p:Int) / 4096 % 64).toNat=128+p / 4096 % 64:=by omega
 unfold sm
 by_cases h1:p<128
 ·have h1I:(p:Int)<128:=by omega
  rw[if_pos h1]
  simp(disch:=try exact dI) only[OH,push_cast,seval]
 rw[if_neg h1]
 have h1I:¬ (p:Int)<128:=by omega
 by_cases h2:p<2048
 ·have h2I:(p:Int)<2048:=by omega
  rw[if_pos h2]
  simp(disch:=try exact dI) only[OH,e1,e2,push_cast,seval]
 rw[if_neg h2]
 have h2I:¬ (p:Int)<2048:=by omega
 by_cases h3:p<65536
 ·have h3I:(p:Int)<65536:=by omega
  rw[if_pos h3]
  simp(disch:=try exact dI) only[OH,e2,e3,e4,push_cast,seval]
 rw[if_neg h3]
 have h3I:¬ (p:Int)<65536:=by omega
 simp(disch:=try exact dI) only[OH,e2,e4,e5,e6,push_cast,seval]
def accP (l:List UInt8)(a:Nat):Nat->Nat
 | 0=>a
 | i+1=>64*accP l a i+(byN l (i+1) - 128)
theorem mZ (l:List UInt8)(a:Nat)(ha:a<256)(i:Nat)(hi:i<4):accP l a i<=100000000:=by
 have h1:=gL l 1
 have h2:=gL l 2
 have h3:=gL l 3
 have:i=0\/i=1\/i=2\/i=3:=by omega
 rcases this with rfl | rfl | rfl | rfl<;>simp only[accP,Nat.zero_add,Nat.reduceAdd]<;>omega
def dr (l:List UInt8)(n:Nat):Bool:=jP (fun j=>decide (128<=byN l (j+1))&&decide (byN l (j+1)<192)) (n - 1)
def ft (l:List UInt8)(n a:Nat):Nat×Nat:=if dr l n=true then (if ka (accP l a (n - 1))=true/\sm (accP l a (n - 1))=l.take n then (accP l a (n - 1),n) else (0,0)) else (0,0)
theorem UW (l:List UInt8)(b:UInt8)(hb:l[0]? = some b)(h0:b.toNat<128)(hmax:l.length<=9223372036854775807)(r:Nat×Nat)(hR:r=if 1<=l.length then ft l 1 b.toNat else (0,0)):ae Tryz.prog aq 165 [.str l] (.tup [.int .i64 r.1,.int .i64 r.2]):=by
 have hne:¬ l=[]:=by intro e;rw[e] at hb;simp at hb
 have hbl:b.toNat<256:=UInt8.toNat_lt _
 refine ae.intro m4.2 (by simp[m4]) ?_
 have f128:(b.toNat:Int)<128:=by omega
 have f192:(b.toNat:Int)<192:=by omega
 have f224:(b.toNat:Int)<224:=by omega
 have f240:(b.toNat:Int)<240:=by omega
 have f248:(b.toNat:Int)<248:=by omega
 have g192:¬ (192:Int)<=b.toNat:=by omega
 have g224:¬ (224:Int)<=b.toNat:=by omega
 have g240:¬ (240:Int)<=b.toNat:=by omega
 by_cases hlen:1<=l.length
 ·have hlenI:¬ (l.length:Int)<1:=by omega
  rw[if_pos hlen] at hR
  simp(disch:=try exact dI) only[m4,hne,hb,push_cast,seval]
  refine ap ([]) (fun i:Nat=>[(5,.pv (.int .i64 (accP l b.toNat (i - 1):Nat))),(7,.pv (.int .i64 (i:Int)))]) (fun i=>[]) (fun i=>1<=i/\i<=1/\jP (fun j=>decide (128<=byN l (j+1))&&decide (byN l (j+1)<192)) (i - 1)=true) (fun i=>1 - i) (1) ?_;intro e0 σ0 n0 h0;simp(disch:=try exact dI) only[push_cast,seval] at h0;obtain⟨rfl,rfl,rfl⟩:=h0;refine⟨?_,?_,?_⟩
  ·simp(disch:=try exact dI) only[accP,push_cast,seval]
  ·exact⟨by omega,by omega,rfl⟩
  ·rintro i ⟨hi1,hiN,hall⟩
   by_cases hlt:i<1
   ·exact absurd hlt (by omega)
   ·have hltI:¬ (i:Int)<1:=by omega
    obtain rfl:i=1:=by omega
    have hc:dr l 1=true:=hall
    have hal:=mZ l b.toNat (by omega) (1 - 1) (by omega)
    rw[ft,if_pos hc] at hR
    simp only[Nat.reduceSub] at hR hal
    generalize accP l b.toNat (0)=p at *
    cases hpt:ka p with
    | false=>
      rw[if_neg (by rw[hpt];simp)] at hR
      rw[hR]
      refine zgZ ?_
      refine ak (bY p (by omega)) rfl ?_
      simp(disch:=try exact dI) only[hpt,push_cast,seval]
    | true=>
      have hpl:p<=1114111:=by
       simp only[ka,Vr,decide_eq_true_eq] at hpt;exact hpt.1
      by_cases he:sm p=l.take 1
      ·rw[if_pos ⟨hpt,he⟩] at hR
       rw[hR]
       refine zgZ ?_
       refine ak (bY p (by omega)) rfl ?_
       simp(disch:=try exact dI) only[hpt,push_cast,seval]
       refine ak (cS p hpl) rfl ?_
       simp(disch:=try exact dI) only[he,push_cast,seval]
      ·rw[if_neg (fun h=>he h.2)] at hR
       rw[hR]
       refine zgZ ?_
       refine ak (bY p (by omega)) rfl ?_
       simp(disch:=try exact dI) only[hpt,push_cast,seval]
       refine ak (cS p hpl) rfl ?_
       simp(disch:=try exact dI) only[he,push_cast,seval]
 ·have hlenI:(l.length:Int)<1:=by omega
  rw[if_neg hlen] at hR
  rw[hR]
  simp(disch:=try exact dI) only[m4,hne,hb,push_cast,seval]
theorem UV (l:List UInt8)(b:UInt8)(hb:l[0]? = some b)(a:Nat)(ha:b.toNat=a+192)(h0:192<=b.toNat/\b.toNat<224)(hmax:l.length<=9223372036854775807)(r:Nat×Nat)(hR:r=if 2<=l.length then ft l 2 a else (0,0)):ae Tryz.prog aq 165 [.str l] (.tup [.int .i64 r.1,.int .i64 r.2]):=by
 have hne:¬ l=[]:=by intro e;rw[e] at hb;simp at hb
 have hbl:b.toNat<256:=UInt8.toNat_lt _
 refine ae.intro m4.2 (by simp[m4]) ?_
 have f128:¬ (b.toNat:Int)<128:=by omega
 have f192:¬ (b.toNat:Int)<192:=by omega
 have f224:(b.toNat:Int)<224:=by omega
 have f240:(b.toNat:Int)<240:=by omega
 have f248:(b.toNat:Int)<248:=by omega
 have g192:(192:Int)<=b.toNat:=by omega
 have g224:¬ (224:Int)<=b.toNat:=by omega
 have g240:¬ (240:Int)<=b.toNat:=by omega
 have haI:(b.toNat:Int)=(a:Int)+192:=by omega
 by_cases hlen:2<=l.length
 ·have hlenI:¬ (l.length:Int)<2:=by omega
  rw[if_pos hlen] at hR
  simp(disch:=try exact dI) only[m4,hne,hb,haI,VD,push_cast,seval]
  refine ap ([]) (fun i:Nat=>[(5,.pv (.int .i64 (accP l a (i - 1):Nat))),(7,.pv (.int .i64 (i:Int)))]) (fun i=>[]) (fun i=>1<=i/\i<=2/\jP (fun j=>decide (128<=byN l (j+1))&&decide (byN l (j+1)<192)) (i - 1)=true) (fun i=>2 - i) (1) ?_;intro e0 σ0 n0 h0;simp(disch:=try exact dI) only[push_cast,seval] at h0;obtain⟨rfl,rfl,rfl⟩:=h0;refine⟨?_,?_,?_⟩
  ·simp(disch:=try exact dI) only[accP,push_cast,seval]
  ·exact⟨by omega,by omega,rfl⟩
  ·rintro i ⟨hi1,hiN,hall⟩
   by_cases hlt:i<2
   ·have hltI:(i:Int)<2:=by omega
    obtain⟨x,hx⟩:∃ x,l[i]? = some x:=⟨_,Vg (by omega)⟩
    have hbx:=gM hx
    have hxl:x.toNat<256:=UInt8.toNat_lt _
    obtain⟨j,rfl⟩:∃ j,i=j+1:=⟨i - 1,by omega⟩
    have hal:=mZ l a (by omega) j (by omega)
    simp only[V5] at hall
    by_cases c1:x.toNat<128
    ·have c1I:(x.toNat:Int)<128:=by omega
     have hno:dr l 2=false:=bd (k:=j) (by rw[hbx];simp only[WN,decide_eq_false_iff_not];omega) (by omega)
     rw[hR,ft,hno,if_neg (by simp)]
     simp(disch:=try exact dI) only[hx,push_cast,seval]
    ·have c1I:¬ (x.toNat:Int)<128:=by omega
     by_cases c2:192<=x.toNat
     ·have c2I:(192:Int)<=x.toNat:=by omega
      have hno:dr l 2=false:=bd (k:=j) (by rw[hbx];simp only[WN,decide_eq_false_iff_not];omega) (by omega)
      rw[hR,ft,hno,if_neg (by simp)]
      simp(disch:=try exact dI) only[hx,push_cast,seval]
     ·have c2I:¬ (192:Int)<=x.toNat:=by omega
      have hnx:(64:Int)*(accP l a j:Nat)+x.toNat - 128=((accP l a (j+1):Nat):Int):=by
       rw[accP,hbx];omega
      simp(disch:=try exact dI) only[hx,V5,hnx,push_cast,seval]
      refine⟨j+1+1,aI (by simp(disch:=try exact dI) only[V5,push_cast,seval]),⟨by omega,by omega,?_⟩,by omega⟩
      show jP _ (j+1)=true
      rw[jP,hall,hbx]
      simp;omega
   ·have hltI:¬ (i:Int)<2:=by omega
    obtain rfl:i=2:=by omega
    have hc:dr l 2=true:=hall
    have hal:=mZ l a (by omega) (2 - 1) (by omega)
    rw[ft,if_pos hc] at hR
    simp only[Nat.reduceSub] at hR hal
    generalize accP l a (1)=p at *
    cases hpt:ka p with
    | false=>
      rw[if_neg (by rw[hpt];simp)] at hR
      rw[hR]
      refine zgZ ?_
      refine ak (bY p (by omega)) rfl ?_
      simp(disch:=try exact dI) only[hpt,push_cast,seval]
    | true=>
      have hpl:p<=1114111:=by
       simp only[ka,Vr,decide_eq_true_eq] at hpt;exact hpt.1
      by_cases he:sm p=l.take 2
      ·rw[if_pos ⟨hpt,he⟩] at hR
       rw[hR]
       refine zgZ ?_
       refine ak (bY p (by omega)) rfl ?_
       simp(disch:=try exact dI) only[hpt,push_cast,seval]
       refine ak (cS p hpl) rfl ?_
       simp(disch:=try exact dI) only[he,push_cast,seval]
      ·rw[if_neg (fun h=>he h.2)] at hR
       rw[hR]
       refine zgZ ?_
       refine ak (bY p (by omega)) rfl ?_
       simp(disch:=try exact dI) only[hpt,push_cast,seval]
       refine ak (cS p hpl) rfl ?_
       simp(disch:=try exact dI) only[he,push_cast,seval]
 ·have hlenI:(l.length:Int)<2:=by omega
  rw[if_neg hlen] at hR
  rw[hR]
  simp(disch:=try exact dI) only[m4,hne,hb,haI,VD,push_cast,seval]
theorem UU (l:List UInt8)(b:UInt8)(hb:l[0]? = some b)(a:Nat)(ha:b.toNat=a+224)(h0:224<=b.toNat/\b.toNat<240)(hmax:l.length<=9223372036854775807)(r:Nat×Nat)(hR:r=if 3<=l.length then ft l 3 a else (0,0)):ae Tryz.prog aq 165 [.str l] (.tup [.int .i64 r.1,.int .i64 r.2]):=by
 have hne:¬ l=[]:=by intro e;rw[e] at hb;simp at hb
 have hbl:b.toNat<256:=UInt8.toNat_lt _
 refine ae.intro m4.2 (by simp[m4]) ?_
 have f128:¬ (b.toNat:Int)<128:=by omega
 have f192:¬ (b.toNat:Int)<192:=by omega
 have f224:¬ (b.toNat:Int)<224:=by omega
 have f240:(b.toNat:Int)<240:=by omega
 have f248:(b.toNat:Int)<248:=by omega
 have g192:(192:Int)<=b.toNat:=by omega
 have g224:(224:Int)<=b.toNat:=by omega
 have g240:¬ (240:Int)<=b.toNat:=by omega
 have haI:(b.toNat:Int)=(a:Int)+224:=by omega
 by_cases hlen:3<=l.length
 ·have hlenI:¬ (l.length:Int)<3:=by omega
  rw[if_pos hlen] at hR
  simp(disch:=try exact dI) only[m4,hne,hb,haI,VD,push_cast,seval]
  refine ap ([]) (fun i:Nat=>[(5,.pv (.int .i64 (accP l a (i - 1):Nat))),(7,.pv (.int .i64 (i:Int)))]) (fun i=>[]) (fun i=>1<=i/\i<=3/\jP (fun j=>decide (128<=byN l (j+1))&&decide (byN l (j+1)<192)) (i - 1)=true) (fun i=>3 - i) (1) ?_;intro e0 σ0 n0 h0;simp(disch:=try exact dI) only[push_cast,seval] at h0;obtain⟨rfl,rfl,rfl⟩:=h0;refine⟨?_,?_,?_⟩
  ·simp(disch:=try exact dI) only[accP,push_cast,seval]
  ·exact⟨by omega,by omega,rfl⟩
  ·rintro i ⟨hi1,hiN,hall⟩
   by_cases hlt:i<3
   ·have hltI:(i:Int)<3:=by omega
    obtain⟨x,hx⟩:∃ x,l[i]? = some x:=⟨_,Vg (by omega)⟩
    have hbx:=gM hx
    have hxl:x.toNat<256:=UInt8.toNat_lt _
    obtain⟨j,rfl⟩:∃ j,i=j+1:=⟨i - 1,by omega⟩
    have hal:=mZ l a (by omega) j (by omega)
    simp only[V5] at hall
    by_cases c1:x.toNat<128
    ·have c1I:(x.toNat:Int)<128:=by omega
     have hno:dr l 3=false:=bd (k:=j) (by rw[hbx];simp only[WN,decide_eq_false_iff_not];omega) (by omega)
     rw[hR,ft,hno,if_neg (by simp)]
     simp(disch:=try exact dI) only[hx,push_cast,seval]
    ·have c1I:¬ (x.toNat:Int)<128:=by omega
     by_cases c2:192<=x.toNat
     ·have c2I:(192:Int)<=x.toNat:=by omega
      have hno:dr l 3=false:=bd (k:=j) (by rw[hbx];simp only[WN,decide_eq_false_iff_not];omega) (by omega)
      rw[hR,ft,hno,if_neg (by simp)]
      simp(disch:=try exact dI) only[hx,push_cast,seval]
     ·have c2I:¬ (192:Int)<=x.toNat:=by omega
      have hnx:(64:Int)*(accP l a j:Nat)+x.toNat - 128=((accP l a (j+1):Nat):Int):=by
       rw[accP,hbx];omega
      simp(disch:=try exact dI) only[hx,V5,hnx,push_cast,seval]
      refine⟨j+1+1,aI (by simp(disch:=try exact dI) only[V5,push_cast,seval]),⟨by omega,by omega,?_⟩,by omega⟩
      show jP _ (j+1)=true
      rw[jP,hall,hbx]
      simp;omega
   ·have hltI:¬ (i:Int)<3:=by omega
    obtain rfl:i=3:=by omega
    have hc:dr l 3=true:=hall
    have hal:=mZ l a (by omega) (3 - 1) (by omega)
    rw[ft,if_pos hc] at hR
    simp only[Nat.reduceSub] at hR hal
    generalize accP l a (2)=p at *
    cases hpt:ka p with
    | false=>
      rw[if_neg (by rw[hpt];simp)] at hR
      rw[hR]
      refine zgZ ?_
      refine ak (bY p (by omega)) rfl ?_
      simp(disch:=try exact dI) only[hpt,push_cast,seval]
    | true=>
      have hpl:p<=1114111:=by
       simp only[ka,Vr,decide_eq_true_eq] at hpt;exact hpt.1
      by_cases he:sm p=l.take 3
      ·rw[if_pos ⟨hpt,he⟩] at hR
       rw[hR]
       refine zgZ ?_
       refine ak (bY p (by omega)) rfl ?_
       simp(disch:=try exact dI) only[hpt,push_cast,seval]
       refine ak (cS p hpl) rfl ?_
       simp(disch:=try exact dI) only[he,push_cast,seval]
      ·rw[if_neg (fun h=>he h.2)] at hR
       rw[hR]
       refine zgZ ?_
       refine ak (bY p (by omega)) rfl ?_
       simp(disch:=try exact dI) only[hpt,push_cast,seval]
       refine ak (cS p hpl) rfl ?_
       simp(disch:=try exact dI) only[he,push_cast,seval]
 ·have hlenI:(l.length:Int)<3:=by omega
  rw[if_neg hlen] at hR
  rw[hR]
  simp(disch:=try exact dI) only[m4,hne,hb,haI,VD,push_cast,seval]
theorem UT (l:List UInt8)(b:UInt8)(hb:l[0]? = some b)(a:Nat)(ha:b.toNat=a+240)(h0:240<=b.toNat/\b.toNat<248)(hmax:l.length<=9223372036854775807)(r:Nat×Nat)(hR:r=if 4<=l.length then ft l 4 a else (0,0)):ae Tryz.prog aq 165 [.str l] (.tup [.int .i64 r.1,.int .i64 r.2]):=by
 have hne:¬ l=[]:=by intro e;rw[e] at hb;simp at hb
 have hbl:b.toNat<256:=UInt8.toNat_lt _
 refine ae.intro m4.2 (by simp[m4]) ?_
 have f128:¬ (b.toNat:Int)<128:=by omega
 have f192:¬ (b.toNat:Int)<192:=by omega
 have f224:¬ (b.toNat:Int)<224:=by omega
 have f240:¬ (b.toNat:Int)<240:=by omega
 have f248:(b.toNat:Int)<248:=by omega
 have g192:(192:Int)<=b.toNat:=by omega
 have g224:(224:Int)<=b.toNat:=by omega
 have g240:(240:Int)<=b.toNat:=by omega
 have haI:(b.toNat:Int)=(a:Int)+240:=by omega
 by_cases hlen:4<=l.length
 ·have hlenI:¬ (l.length:Int)<4:=by omega
  rw[if_pos hlen] at hR
  simp(disch:=try exact dI) only[m4,hne,hb,haI,VD,push_cast,seval]
  refine ap ([]) (fun i:Nat=>[(5,.pv (.int .i64 (accP l a (i - 1):Nat))),(7,.pv (.int .i64 (i:Int)))]) (fun i=>[]) (fun i=>1<=i/\i<=4/\jP (fun j=>decide (128<=byN l (j+1))&&decide (byN l (j+1)<192)) (i - 1)=true) (fun i=>4 - i) (1) ?_;intro e0 σ0 n0 h0;simp(disch:=try exact dI) only[push_cast,seval] at h0;obtain⟨rfl,rfl,rfl⟩:=h0;refine⟨?_,?_,?_⟩
  ·simp(disch:=try exact dI) only[accP,push_cast,seval]
  ·exact⟨by omega,by omega,rfl⟩
  ·rintro i ⟨hi1,hiN,hall⟩
   by_cases hlt:i<4
   ·have hltI:(i:Int)<4:=by omega
    obtain⟨x,hx⟩:∃ x,l[i]? = some x:=⟨_,Vg (by omega)⟩
    have hbx:=gM hx
    have hxl:x.toNat<256:=UInt8.toNat_lt _
    obtain⟨j,rfl⟩:∃ j,i=j+1:=⟨i - 1,by omega⟩
    have hal:=mZ l a (by omega) j (by omega)
    simp only[V5] at hall
    by_cases c1:x.toNat<128
    ·have c1I:(x.toNat:Int)<128:=by omega
     have hno:dr l 4=false:=bd (k:=j) (by rw[hbx];simp only[WN,decide_eq_false_iff_not];omega) (by omega)
     rw[hR,ft,hno,if_neg (by simp)]
     simp(disch:=try exact dI) only[hx,push_cast,seval]
    ·have c1I:¬ (x.toNat:Int)<128:=by omega
     by_cases c2:192<=x.toNat
     ·have c2I:(192:Int)<=x.toNat:=by omega
      have hno:dr l 4=false:=bd (k:=j) (by rw[hbx];simp only[WN,decide_eq_false_iff_not];omega) (by omega)
      rw[hR,ft,hno,if_neg (by simp)]
      simp(disch:=try exact dI) only[hx,push_cast,seval]
     ·have c2I:¬ (192:Int)<=x.toNat:=by omega
      have hnx:(64:Int)*(accP l a j:Nat)+x.toNat - 128=((accP l a (j+1):Nat):Int):=by
       rw[accP,hbx];omega
      simp(disch:=try exact dI) only[hx,V5,hnx,push_cast,seval]
      refine⟨j+1+1,aI (by simp(disch:=try exact dI) only[V5,push_cast,seval]),⟨by omega,by omega,?_⟩,by omega⟩
      show jP _ (j+1)=true
      rw[jP,hall,hbx]
      simp;omega
   ·have hltI:¬ (i:Int)<4:=by omega
    obtain rfl:i=4:=by omega
    have hc:dr l 4=true:=hall
    have hal:=mZ l a (by omega) (4 - 1) (by omega)
    rw[ft,if_pos hc] at hR
    simp only[Nat.reduceSub] at hR hal
    generalize accP l a (3)=p at *
    cases hpt:ka p with
    | false=>
      rw[if_neg (by rw[hpt];simp)] at hR
      rw[hR]
      refine zgZ ?_
      refine ak (bY p (by omega)) rfl ?_
      simp(disch:=try exact dI) only[hpt,push_cast,seval]
    | true=>
      have hpl:p<=1114111:=by
       simp only[ka,Vr,decide_eq_true_eq] at hpt;exact hpt.1
      by_cases he:sm p=l.take 4
      ·rw[if_pos ⟨hpt,he⟩] at hR
       rw[hR]
       refine zgZ ?_
       refine ak (bY p (by omega)) rfl ?_
       simp(disch:=try exact dI) only[hpt,push_cast,seval]
       refine ak (cS p hpl) rfl ?_
       simp(disch:=try exact dI) only[he,push_cast,seval]
      ·rw[if_neg (fun h=>he h.2)] at hR
       rw[hR]
       refine zgZ ?_
       refine ak (bY p (by omega)) rfl ?_
       simp(disch:=try exact dI) only[hpt,push_cast,seval]
       refine ak (cS p hpl) rfl ?_
       simp(disch:=try exact dI) only[he,push_cast,seval]
 ·have hlenI:(l.length:Int)<4:=by omega
  rw[if_neg hlen] at hR
  rw[hR]
  simp(disch:=try exact dI) only[m4,hne,hb,haI,VD,push_cast,seval]
theorem wv (l:List UInt8)(b:UInt8)(hb:l[0]? = some b)(h0:(128<=b.toNat/\b.toNat<192)\/248<=b.toNat):ae Tryz.prog aq 165 [.str l] (.tup [.int .i64 0,.int .i64 0]):=by
 have hne:¬ l=[]:=by intro e;rw[e] at hb;simp at hb
 have hbl:b.toNat<256:=UInt8.toNat_lt _
 refine ae.intro m4.2 (by simp[m4]) ?_
 have f128:¬ (b.toNat:Int)<128:=by omega
 rcases h0 with ⟨h1,h2⟩ | h1
 ·have g192:¬ (192:Int)<=b.toNat:=by omega
  have g224:¬ (224:Int)<=b.toNat:=by omega
  have g240:¬ (240:Int)<=b.toNat:=by omega
  simp(disch:=try exact dI) only[m4,hne,hb,push_cast,seval]
 ·have g192:(192:Int)<=b.toNat:=by omega
  have g224:(224:Int)<=b.toNat:=by omega
  have g240:(240:Int)<=b.toNat:=by omega
  have f224:¬ (b.toNat:Int)<224:=by omega
  have f240:¬ (b.toNat:Int)<240:=by omega
  have f248:¬ (b.toNat:Int)<248:=by omega
  simp(disch:=try exact dI) only[m4,hne,hb,push_cast,seval]
theorem EQ:ae Tryz.prog aq 165 [.str []] (.tup [.int .i64 0,.int .i64 0]):=by
 refine ae.intro m4.2 (by simp[m4]) ?_
 simp(disch:=try exact dI) only[m4,push_cast,seval]
theorem tT {l:List UInt8}{i:Nat}(h:i<l.length):∃ b,l[i]? = some b:=⟨_,Vg h⟩
theorem EP (l:List UInt8)(hmax:l.length<=9223372036854775807):ae Tryz.prog aq 165 [.str l] (.tup [.int .i64 (mK l).1,.int .i64 (mK l).2]):=by
 by_cases hne:l=[]
 ·subst hne;exact EQ
 have hl0:0<l.length:=List.length_pos_iff.2 hne
 obtain⟨b,hb⟩:=tT hl0
 have h0:=gM hb
 have hbl:b.toNat<256:=UInt8.toNat_lt _
 by_cases c1:b.toNat<128
 ·refine UW l b hb c1 hmax (mK l) ?_
  rw[Tt hne (by omega),h0,if_pos (by omega),ft,if_pos (show dr l 1=true from rfl)]
  have e1:l.take 1=[b]:=by rw[aD hb];rfl
  have e2:sm b.toNat=[b]:=by rw[sm,if_pos c1];simp
  have e3:ka b.toNat=true:=by simp[ka];omega
  show _=if ka b.toNat=true/\sm b.toNat=l.take 1 then (b.toNat,1) else (0,0)
  rw[if_pos ⟨e3,by rw[e1,e2]⟩]
 by_cases c2:b.toNat<192
 ·have:=wv l b hb (.inl ⟨by omega,c2⟩)
  rwa [ER hne (by omega)]
 by_cases c3:b.toNat<224
 ·refine UV l b hb (b.toNat - 192) (by omega) ⟨by omega,c3⟩ hmax (mK l) ?_
  rw[Ts hne (by omega),h0]
  by_cases hlen:2<=l.length
  ·obtain⟨c,hc⟩:=tT (l:=l) (i:=1) (by omega)
   have h1:=gM hc
   rw[if_pos hlen,h1,ft]
   by_cases k1:128<=c.toNat/\c.toNat<192
   ·have hcu:dr l 2=true:=by simp[dr,jP,h1,k1]
    have hacc:accP l (b.toNat - 192) (2 - 1)=64*(b.toNat - 192)+(c.toNat - 128):=by simp[accP,h1]
    have henc:=Tf ⟨by omega,c3⟩ k1
    rw[if_pos hcu,hacc,JS hb hc]
    have hpt:ka (64*(b.toNat - 192)+(c.toNat - 128))=true:=by simp[ka];omega
    by_cases k2:128<=64*(b.toNat - 192)+(c.toNat - 128)
    ·rw[if_pos ⟨by omega,k1,k2⟩,if_pos ⟨hpt,henc.2 k2⟩]
    ·rw[if_neg (fun h=>k2 h.2.2),if_neg (fun h=>k2 (henc.1 h.2))]
   ·have hcu:dr l 2=false:=by
     refine bd (k:=0) ?_ (by omega)
     simp[h1];omega
    rw[if_neg (fun h=>k1 h.2.1),if_neg (by rw[hcu];simp)]
  ·rw[if_neg hlen,if_neg (by omega)]
 by_cases c4:b.toNat<240
 ·refine UU l b hb (b.toNat - 224) (by omega) ⟨by omega,c4⟩ hmax (mK l) ?_
  rw[Tq hne (by omega),h0]
  by_cases hlen:3<=l.length
  ·obtain⟨c,hc⟩:=tT (l:=l) (i:=1) (by omega)
   obtain⟨d,hd⟩:=tT (l:=l) (i:=2) (by omega)
   have h1:=gM hc
   have h2:=gM hd
   rw[if_pos hlen,h1,h2,ft]
   by_cases k1:128<=c.toNat/\c.toNat<192
   ·by_cases k2:128<=d.toNat/\d.toNat<192
    ·have hcu:dr l 3=true:=by simp[dr,jP,h1,h2,k1,k2]
     have hacc:accP l (b.toNat - 224) (3 - 1)=4096*(b.toNat - 224)+64*(c.toNat - 128)+(d.toNat - 128):=by simp[accP,h1,h2];omega
     have henc:=Te ⟨by omega,c4⟩ k1 k2
     rw[if_pos hcu,hacc,JR hb hc hd]
     have hp:4096*(b.toNat - 224)+64*(c.toNat - 128)+(d.toNat - 128)<=65535:=by omega
     generalize 4096*(b.toNat - 224)+64*(c.toNat - 128)+(d.toNat - 128)=p at *
     have hpt:ka p=true↔(p<55296\/57343<p):=by simp[ka];omega
     by_cases k3:2048<=p/\(p<55296\/57343<p)
     ·rw[if_pos ⟨by omega,k1,k2,k3⟩,if_pos ⟨hpt.2 k3.2,henc.2 k3.1⟩]
     ·rw[if_neg (fun h=>k3 h.2.2.2),if_neg (fun h=>k3 ⟨henc.1 h.2,hpt.1 h.1⟩)]
    ·have hcu:dr l 3=false:=by
      refine bd (k:=1) ?_ (by omega)
      simp[h2];omega
     rw[if_neg (fun h=>k2 h.2.2.1),if_neg (by rw[hcu];simp)]
   ·have hcu:dr l 3=false:=by
     refine bd (k:=0) ?_ (by omega)
     simp[h1];omega
    rw[if_neg (fun h=>k1 h.2.1),if_neg (by rw[hcu];simp)]
  ·rw[if_neg hlen,if_neg (by omega)]
 by_cases c5:b.toNat<248
 ·refine UT l b hb (b.toNat - 240) (by omega) ⟨by omega,c5⟩ hmax (mK l) ?_
  rw[Tp hne (by omega),h0]
  by_cases hlen:4<=l.length
  ·obtain⟨c,hc⟩:=tT (l:=l) (i:=1) (by omega)
   obtain⟨d,hd⟩:=tT (l:=l) (i:=2) (by omega)
   obtain⟨e,he⟩:=tT (l:=l) (i:=3) (by omega)
   have h1:=gM hc
   have h2:=gM hd
   have h3:=gM he
   rw[if_pos hlen,h1,h2,h3,ft]
   by_cases k1:128<=c.toNat/\c.toNat<192
   ·by_cases k2:128<=d.toNat/\d.toNat<192
    ·by_cases k3:128<=e.toNat/\e.toNat<192
     ·have hcu:dr l 4=true:=by simp[dr,jP,h1,h2,h3,k1,k2,k3]
      have hacc:accP l (b.toNat - 240) (4 - 1)=262144*(b.toNat - 240)+4096*(c.toNat - 128)+64*(d.toNat - 128)+(e.toNat - 128):=by simp[accP,h1,h2,h3];omega
      have henc:=Tc ⟨by omega,c5⟩ k1 k2 k3
      rw[if_pos hcu,hacc,O9 hb hc hd he]
      have hp:262144*(b.toNat - 240)+4096*(c.toNat - 128)+64*(d.toNat - 128)+(e.toNat - 128)<=2097151:=by omega
      generalize 262144*(b.toNat - 240)+4096*(c.toNat - 128)+64*(d.toNat - 128)+(e.toNat - 128)=p at *
      by_cases k5:p<=1114111
      ·have henc:=henc k5
       by_cases k4:65536<=p
       ·have hpt:ka p=true:=by simp[ka];omega
        rw[if_pos ⟨by omega,k1,k2,k3,k4,k5⟩,if_pos ⟨hpt,henc.2 k4⟩]
       ·rw[if_neg (fun h=>k4 h.2.2.2.2.1),if_neg (fun h=>k4 (henc.1 h.2))]
      ·have hpt:¬ ka p=true:=by simp[ka];omega
       rw[if_neg (fun h=>k5 h.2.2.2.2.2),if_neg (fun h=>hpt h.1)]
     ·have hcu:dr l 4=false:=by
       refine bd (k:=2) ?_ (by omega)
       simp[h3];omega
      rw[if_neg (fun h=>k3 h.2.2.2.1),if_neg (by rw[hcu];simp)]
    ·have hcu:dr l 4=false:=by
      refine bd (k:=1) ?_ (by omega)
      simp[h2];omega
     rw[if_neg (fun h=>k2 h.2.2.1),if_neg (by rw[hcu];simp)]
   ·have hcu:dr l 4=false:=by
     refine bd (k:=0) ?_ (by omega)
     simp[h1];omega
    rw[if_neg (fun h=>k1 h.2.1),if_neg (by rw[hcu];simp)]
  ·rw[if_neg hlen,if_neg (by omega)]
 ·have:=wv l b hb (.inr (by omega))
  rwa [ER hne (by omega)]
def fp (l:List UInt8):Nat->Nat->Int
 | 0,_=>-1
 | f+1,m=>if m<l.length then (if (mK (l.drop m)).2=0 then (m:Int) else fp l f (m+(mK (l.drop m)).2)) else -1
theorem jY (l:List UInt8):∀ (f m:Nat),l.length - m<=f->m<=l.length->(Lib.validD (l.drop m)=true->fp l f m = -1)/\(Lib.validD (l.drop m)=false->0<=fp l f m)
 | 0,m,h,hm=>by
   have e:l.drop m=[]:=Wi (by omega)
   rw[e,Lib.validD_nil]
   exact⟨fun _=>rfl,fun h=>by cases h⟩
 | f+1,m,h,hm=>by
   by_cases hlt:m<l.length
   ·have hne:l.drop m≠[]:=by intro e;have:=congrArg List.length e;rw[Wu,List.length_nil] at this;omega
    rw[xu hne,fp,if_pos hlt]
    by_cases hw:(mK (l.drop m)).2=0
    ·rw[if_pos hw,if_pos hw]
     exact⟨fun h=>(by cases h),fun _=>by omega⟩
    ·rw[if_neg hw,if_neg hw,List.drop_drop]
     have hle:=Kt (l.drop m)
     rw[Wu] at hle
     have:=jY l f (m+(mK (l.drop m)).2) (by omega) (by omega)
     exact this
   ·have e:l.drop m=[]:=Wi (by omega)
    rw[e,Lib.validD_nil,fp,if_neg hlt]
    exact⟨fun _=>rfl,fun h=>by cases h⟩
theorem Nf (l:List UInt8)(hmax:l.length<=9223372036854775807):ae Tryz.prog aq 115 [.str l] (.int .i64 (fp l l.length 0)):=by
 refine ae.intro Up.2 (by simp[Up]) ?_
 generalize hZ:fp l l.length 0=Z
 simp(disch:=try exact dI) only[Up,push_cast,seval]
 refine ap ([]) (fun m:Nat=>[(3,.pv (.int .i64 (m:Int)))]) (fun m=>[]) (fun m=>m<=l.length/\∃ f,l.length - m<=f/\Z=fp l f m) (fun m=>l.length - m) (0) ?_;intro e0 σ0 n0 h0;simp(disch:=try exact dI) only[push_cast,seval] at h0;obtain⟨rfl,rfl,rfl⟩:=h0;refine⟨?_,?_,?_⟩
 ·exact qsZ
 ·exact⟨by omega,l.length,by omega,hZ.symm⟩
 ·rintro m ⟨hm,f,hf,he⟩
  by_cases hlt:m<l.length
  ·have hltI:(m:Int)<l.length:=by omega
   have hcall:=EP (l.drop m) (by rw[Wu];omega)
   have hle:=Kt (l.drop m)
   rw[Wu] at hle
   obtain⟨f',rfl⟩:∃ f',f=f'+1:=⟨f - 1,by omega⟩
   rw[fp,if_pos hlt] at he
   generalize hw:mK (l.drop m)=w at *
   obtain⟨w1,w2⟩:=w
   simp only at hcall hle he
   simp(disch:=try exact dI) only[List.take_length,push_cast,seval]
   refine ab.pure hcall rfl ?_
   by_cases h0:w2=0
   ·have h0I:(w2:Int)=0:=by omega
    rw[if_pos h0] at he
    rw[he]
    exact qsZ
   ·have h0I:¬ (w2:Int)=0:=by omega
    rw[if_neg h0] at he
    refine zgZ ?_
    exact⟨m+w2,aI qsZ,⟨by omega,f',by omega,he⟩,by omega⟩
  ·have hltI:¬ (m:Int)<l.length:=by omega
   have:Z = -1:=by
    rw[he]
    cases f with
    | zero=>rfl
    | succ f=>rw[fp,if_neg hlt]
   rw[this]
   exact qsZ
