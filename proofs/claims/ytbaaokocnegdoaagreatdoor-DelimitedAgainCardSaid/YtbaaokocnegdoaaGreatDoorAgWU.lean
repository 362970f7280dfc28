/- A part of the proof. -/
import Derived.Test.YtbaaokocnegdoaaGreatDoorAgWD
set_option linter.unusedVariables false
set_option linter.unusedSimpArgs false
set_option maxHeartbeats 16000000
set_option maxRecDepth 100000
namespace Go.Proofs.YtbaaokocnegdoaaGreatDoor
open Go Go.Ab
attribute [local irreducible] vc
theorem bI (p:Nat)(hp:p<=1000000000):ae Tryz.prog au 221 [.int .i64 p] (.bool (jz p)):=by
 refine ae.intro On.2 (by simp[On]) ?_
 by_cases h1:p<=1114111
 ·have h1I:(p:Int)<=1114111:=by omega
  by_cases h2:p<55296
  ·have h2I:(p:Int)<55296:=by omega
   simp(disch:=try exact dI) only[On,jz,Bool.true_or,push_cast,seval]
  ·have h2I:¬ (p:Int)<55296:=by omega
   by_cases h3:57343<p
   ·have h3I:(57343:Int)<p:=by omega
    simp(disch:=try exact dI) only[On,jz,push_cast,seval]
    simp[h3]
   ·have h3I:¬ (57343:Int)<p:=by omega
    simp(disch:=try exact dI) only[On,jz,push_cast,seval]
    simp[h3]
 ·have h1I:¬ (p:Int)<=1114111:=by omega
  simp(disch:=try exact dI) only[On,jz,push_cast,seval]
theorem cu (p:Nat)(hp:p<=1114111):ae Tryz.prog au 222 [.int .i64 p] (.str (ry p)):=by
 refine ae.intro Om.2 (by simp[Om]) ?_
 have e1:((192:Int)+(p:Int) / 64).toNat=192+p / 64:=by omega
 have e2:((128:Int)+(p:Int) % 64).toNat=128+p % 64:=by omega
 have e3:((224:Int)+(p:Int) / 4096).toNat=224+p / 4096:=by omega
 have e4:((128:Int)+(p:Int) / 64 % 64).toNat=128+p / 64 % 64:=by omega
 have e5:((240:Int)+(p:Int) / 262144).toNat=240+p / 262144:=by omega
 have e6:((128:Int)+(p:Int) / 4096 % 64).toNat=128+p / 4096 % 64:=by omega
 unfold ry
 by_cases h1:p<128
 ·have h1I:(p:Int)<128:=by omega
  rw[if_pos h1]
  simp(disch:=try exact dI) only[Om,push_cast,seval]
 rw[if_neg h1]
 have h1I:¬ (p:Int)<128:=by omega
 by_cases h2:p<2048
 ·have h2I:(p:Int)<2048:=by omega
  rw[if_pos h2]
  simp(disch:=try exact dI) only[Om,e1,e2,push_cast,seval]
 rw[if_neg h2]
 have h2I:¬ (p:Int)<2048:=by omega
 by_cases h3:p<65536
 ·have h3I:(p:Int)<65536:=by omega
  rw[if_pos h3]
  simp(disch:=try exact dI) only[Om,e2,e3,e4,push_cast,seval]
 rw[if_neg h3]
 have h3I:¬ (p:Int)<65536:=by omega
 simp(disch:=try exact dI) only[Om,e2,e4,e5,e6,push_cast,seval]
def accP (l:List UInt8)(a:Nat):Nat->Nat
 | 0=>a
 | i+1=>64*accP l a i+(byN l (i+1) - 128)
theorem l7 (l:List UInt8)(a:Nat)(ha:a<256)(i:Nat)(hi:i<4):accP l a i<=100000000:=by
 have h1:=fU l 1
 have h2:=fU l 2
 have h3:=fU l 3
 have:i=0\/i=1\/i=2\/i=3:=by omega
 rcases this with rfl | rfl | rfl | rfl<;>simp only[accP,Nat.zero_add,Nat.reduceAdd]<;>omega
def cH (l:List UInt8)(n:Nat):Bool:=ja (fun j=>decide (128<=byN l (j+1))&&decide (byN l (j+1)<192)) (n - 1)
def eT (l:List UInt8)(n a:Nat):Nat×Nat:=if cH l n=true then (if jz (accP l a (n - 1))=true/\ry (accP l a (n - 1))=l.take n then (accP l a (n - 1),n) else (0,0)) else (0,0)
theorem T2 (l:List UInt8)(b:UInt8)(hb:l[0]? = some b)(h0:b.toNat<128)(hmax:l.length<=9223372036854775807)(r:Nat×Nat)(hR:r=if 1<=l.length then eT l 1 b.toNat else (0,0)):ae Tryz.prog au 165 [.str l] (.tup [.int .i64 r.1,.int .i64 r.2]):=by
 have hne:¬ l=[]:=by intro e;rw[e] at hb;simp at hb
 have hbl:b.toNat<256:=UInt8.toNat_lt _
 refine ae.intro l8.2 (by simp[l8]) ?_
 have f128:(b.toNat:Int)<128:=by omega
 have f192:(b.toNat:Int)<192:=by omega
 have f224:(b.toNat:Int)<224:=by omega
 have f240:(b.toNat:Int)<240:=by omega
 have f248:(b.toNat:Int)<248:=by omega
 have g192:¬ (192:Int)<=b.toNat:=by omega
 have g224:¬ (224:Int)<=b.toNat:=by omega
 have g240:¬ (240:Int)<=b.toNat:=by omega
 by_cases hlen:1<=l.length
 ·have hlenI:¬ (l.length:Int)<1:=by omega
  rw[if_pos hlen] at hR
  simp(disch:=try exact dI) only[l8,hne,hb,push_cast,seval]
  refine aC ([]) (fun i:Nat=>[(5,.pv (.int .i64 (accP l b.toNat (i - 1):Nat))),(7,.pv (.int .i64 (i:Int)))]) (fun i=>[]) (fun i=>1<=i/\i<=1/\ja (fun j=>decide (128<=byN l (j+1))&&decide (byN l (j+1)<192)) (i - 1)=true) (fun i=>1 - i) (1) ?_;intro e0 σ0 n0 h0;simp(disch:=try exact dI) only[push_cast,seval] at h0;obtain⟨rfl,rfl,rfl⟩:=h0;refine⟨?_,?_,?_⟩
  ·simp(disch:=try exact dI) only[accP,push_cast,seval]
  ·exact⟨by omega,by omega,rfl⟩
  ·rintro i ⟨hi1,hiN,hall⟩
   by_cases hlt:i<1
   ·exact absurd hlt (by omega)
   ·have hltI:¬ (i:Int)<1:=by omega
    obtain rfl:i=1:=by omega
    have hc:cH l 1=true:=hall
    have hal:=l7 l b.toNat (by omega) (1 - 1) (by omega)
    rw[eT,if_pos hc] at hR
    simp only[Nat.reduceSub] at hR hal
    generalize accP l b.toNat (0)=p at *
    cases hpt:jz p with
    | false=>
      rw[if_neg (by rw[hpt];simp)] at hR
      rw[hR]
      refine zgZ ?_
      refine ag (bI p (by omega)) rfl ?_
      simp(disch:=try exact dI) only[hpt,push_cast,seval]
    | true=>
      have hpl:p<=1114111:=by
       simp only[jz,Bool.and_eq_true,decide_eq_true_eq] at hpt;exact hpt.1
      by_cases he:ry p=l.take 1
      ·rw[if_pos ⟨hpt,he⟩] at hR
       rw[hR]
       refine zgZ ?_
       refine ag (bI p (by omega)) rfl ?_
       simp(disch:=try exact dI) only[hpt,push_cast,seval]
       refine ag (cu p hpl) rfl ?_
       simp(disch:=try exact dI) only[he,push_cast,seval]
      ·rw[if_neg (fun h=>he h.2)] at hR
       rw[hR]
       refine zgZ ?_
       refine ag (bI p (by omega)) rfl ?_
       simp(disch:=try exact dI) only[hpt,push_cast,seval]
       refine ag (cu p hpl) rfl ?_
       simp(disch:=try exact dI) only[he,push_cast,seval]
 ·have hlenI:(l.length:Int)<1:=by omega
  rw[if_neg hlen] at hR
  rw[hR]
  simp(disch:=try exact dI) only[l8,hne,hb,push_cast,seval]
theorem T1 (l:List UInt8)(b:UInt8)(hb:l[0]? = some b)(a:Nat)(ha:b.toNat=a+192)(h0:192<=b.toNat/\b.toNat<224)(hmax:l.length<=9223372036854775807)(r:Nat×Nat)(hR:r=if 2<=l.length then eT l 2 a else (0,0)):ae Tryz.prog au 165 [.str l] (.tup [.int .i64 r.1,.int .i64 r.2]):=by
 have hne:¬ l=[]:=by intro e;rw[e] at hb;simp at hb
 have hbl:b.toNat<256:=UInt8.toNat_lt _
 refine ae.intro l8.2 (by simp[l8]) ?_
 have f128:¬ (b.toNat:Int)<128:=by omega
 have f192:¬ (b.toNat:Int)<192:=by omega
 have f224:(b.toNat:Int)<224:=by omega
 have f240:(b.toNat:Int)<240:=by omega
 have f248:(b.toNat:Int)<248:=by omega
 have g192:(192:Int)<=b.toNat:=by omega
 have g224:¬ (224:Int)<=b.toNat:=by omega
 have g240:¬ (240:Int)<=b.toNat:=by omega
 have haI:(b.toNat:Int)=(a:Int)+192:=by omega
 by_cases hlen:2<=l.length
 ·have hlenI:¬ (l.length:Int)<2:=by omega
  rw[if_pos hlen] at hR
  simp(disch:=try exact dI) only[l8,hne,hb,haI,Int.add_sub_cancel,push_cast,seval]
  refine aC ([]) (fun i:Nat=>[(5,.pv (.int .i64 (accP l a (i - 1):Nat))),(7,.pv (.int .i64 (i:Int)))]) (fun i=>[]) (fun i=>1<=i/\i<=2/\ja (fun j=>decide (128<=byN l (j+1))&&decide (byN l (j+1)<192)) (i - 1)=true) (fun i=>2 - i) (1) ?_;intro e0 σ0 n0 h0;simp(disch:=try exact dI) only[push_cast,seval] at h0;obtain⟨rfl,rfl,rfl⟩:=h0;refine⟨?_,?_,?_⟩
  ·simp(disch:=try exact dI) only[accP,push_cast,seval]
  ·exact⟨by omega,by omega,rfl⟩
  ·rintro i ⟨hi1,hiN,hall⟩
   by_cases hlt:i<2
   ·have hltI:(i:Int)<2:=by omega
    obtain⟨x,hx⟩:∃ x,l[i]? = some x:=⟨_,List.getElem?_eq_getElem (by omega)⟩
    have hbx:=fV hx
    have hxl:x.toNat<256:=UInt8.toNat_lt _
    obtain⟨j,rfl⟩:∃ j,i=j+1:=⟨i - 1,by omega⟩
    have hal:=l7 l a (by omega) j (by omega)
    simp only[Nat.add_sub_cancel] at hall
    by_cases c1:x.toNat<128
    ·have c1I:(x.toNat:Int)<128:=by omega
     have hno:cH l 2=false:=ba (k:=j) (by rw[hbx];simp only[Bool.and_eq_false_iff,decide_eq_false_iff_not];omega) (by omega)
     rw[hR,eT,hno,if_neg (by simp)]
     simp(disch:=try exact dI) only[hx,push_cast,seval]
    ·have c1I:¬ (x.toNat:Int)<128:=by omega
     by_cases c2:192<=x.toNat
     ·have c2I:(192:Int)<=x.toNat:=by omega
      have hno:cH l 2=false:=ba (k:=j) (by rw[hbx];simp only[Bool.and_eq_false_iff,decide_eq_false_iff_not];omega) (by omega)
      rw[hR,eT,hno,if_neg (by simp)]
      simp(disch:=try exact dI) only[hx,push_cast,seval]
     ·have c2I:¬ (192:Int)<=x.toNat:=by omega
      have hnx:(64:Int)*(accP l a j:Nat)+x.toNat - 128=((accP l a (j+1):Nat):Int):=by
       rw[accP,hbx];omega
      simp(disch:=try exact dI) only[hx,Nat.add_sub_cancel,hnx,push_cast,seval]
      refine⟨j+1+1,aR (by simp(disch:=try exact dI) only[Nat.add_sub_cancel,push_cast,seval]),⟨by omega,by omega,?_⟩,by omega⟩
      show ja _ (j+1)=true
      rw[ja,hall,hbx]
      simp;omega
   ·have hltI:¬ (i:Int)<2:=by omega
    obtain rfl:i=2:=by omega
    have hc:cH l 2=true:=hall
    have hal:=l7 l a (by omega) (2 - 1) (by omega)
    rw[eT,if_pos hc] at hR
    simp only[Nat.reduceSub] at hR hal
    generalize accP l a (1)=p at *
    cases hpt:jz p with
    | false=>
      rw[if_neg (by rw[hpt];simp)] at hR
      rw[hR]
      refine zgZ ?_
      refine ag (bI p (by omega)) rfl ?_
      simp(disch:=try exact dI) only[hpt,push_cast,seval]
    | true=>
      have hpl:p<=1114111:=by
       simp only[jz,Bool.and_eq_true,decide_eq_true_eq] at hpt;exact hpt.1
      by_cases he:ry p=l.take 2
      ·rw[if_pos ⟨hpt,he⟩] at hR
       rw[hR]
       refine zgZ ?_
       refine ag (bI p (by omega)) rfl ?_
       simp(disch:=try exact dI) only[hpt,push_cast,seval]
       refine ag (cu p hpl) rfl ?_
       simp(disch:=try exact dI) only[he,push_cast,seval]
      ·rw[if_neg (fun h=>he h.2)] at hR
       rw[hR]
       refine zgZ ?_
       refine ag (bI p (by omega)) rfl ?_
       simp(disch:=try exact dI) only[hpt,push_cast,seval]
       refine ag (cu p hpl) rfl ?_
       simp(disch:=try exact dI) only[he,push_cast,seval]
 ·have hlenI:(l.length:Int)<2:=by omega
  rw[if_neg hlen] at hR
  rw[hR]
  simp(disch:=try exact dI) only[l8,hne,hb,haI,Int.add_sub_cancel,push_cast,seval]
theorem TZ (l:List UInt8)(b:UInt8)(hb:l[0]? = some b)(a:Nat)(ha:b.toNat=a+224)(h0:224<=b.toNat/\b.toNat<240)(hmax:l.length<=9223372036854775807)(r:Nat×Nat)(hR:r=if 3<=l.length then eT l 3 a else (0,0)):ae Tryz.prog au 165 [.str l] (.tup [.int .i64 r.1,.int .i64 r.2]):=by
 have hne:¬ l=[]:=by intro e;rw[e] at hb;simp at hb
 have hbl:b.toNat<256:=UInt8.toNat_lt _
 refine ae.intro l8.2 (by simp[l8]) ?_
 have f128:¬ (b.toNat:Int)<128:=by omega
 have f192:¬ (b.toNat:Int)<192:=by omega
 have f224:¬ (b.toNat:Int)<224:=by omega
 have f240:(b.toNat:Int)<240:=by omega
 have f248:(b.toNat:Int)<248:=by omega
 have g192:(192:Int)<=b.toNat:=by omega
 have g224:(224:Int)<=b.toNat:=by omega
 have g240:¬ (240:Int)<=b.toNat:=by omega
 have haI:(b.toNat:Int)=(a:Int)+224:=by omega
 by_cases hlen:3<=l.length
 ·have hlenI:¬ (l.length:Int)<3:=by omega
  rw[if_pos hlen] at hR
  simp(disch:=try exact dI) only[l8,hne,hb,haI,Int.add_sub_cancel,push_cast,seval]
  refine aC ([]) (fun i:Nat=>[(5,.pv (.int .i64 (accP l a (i - 1):Nat))),(7,.pv (.int .i64 (i:Int)))]) (fun i=>[]) (fun i=>1<=i/\i<=3/\ja (fun j=>decide (128<=byN l (j+1))&&decide (byN l (j+1)<192)) (i - 1)=true) (fun i=>3 - i) (1) ?_;intro e0 σ0 n0 h0;simp(disch:=try exact dI) only[push_cast,seval] at h0;obtain⟨rfl,rfl,rfl⟩:=h0;refine⟨?_,?_,?_⟩
  ·simp(disch:=try exact dI) only[accP,push_cast,seval]
  ·exact⟨by omega,by omega,rfl⟩
  ·rintro i ⟨hi1,hiN,hall⟩
   by_cases hlt:i<3
   ·have hltI:(i:Int)<3:=by omega
    obtain⟨x,hx⟩:∃ x,l[i]? = some x:=⟨_,List.getElem?_eq_getElem (by omega)⟩
    have hbx:=fV hx
    have hxl:x.toNat<256:=UInt8.toNat_lt _
    obtain⟨j,rfl⟩:∃ j,i=j+1:=⟨i - 1,by omega⟩
    have hal:=l7 l a (by omega) j (by omega)
    simp only[Nat.add_sub_cancel] at hall
    by_cases c1:x.toNat<128
    ·have c1I:(x.toNat:Int)<128:=by omega
     have hno:cH l 3=false:=ba (k:=j) (by rw[hbx];simp only[Bool.and_eq_false_iff,decide_eq_false_iff_not];omega) (by omega)
     rw[hR,eT,hno,if_neg (by simp)]
     simp(disch:=try exact dI) only[hx,push_cast,seval]
    ·have c1I:¬ (x.toNat:Int)<128:=by omega
     by_cases c2:192<=x.toNat
     ·have c2I:(192:Int)<=x.toNat:=by omega
      have hno:cH l 3=false:=ba (k:=j) (by rw[hbx];simp only[Bool.and_eq_false_iff,decide_eq_false_iff_not];omega) (by omega)
      rw[hR,eT,hno,if_neg (by simp)]
      simp(disch:=try exact dI) only[hx,push_cast,seval]
     ·have c2I:¬ (192:Int)<=x.toNat:=by omega
      have hnx:(64:Int)*(accP l a j:Nat)+x.toNat - 128=((accP l a (j+1):Nat):Int):=by
       rw[accP,hbx];omega
      simp(disch:=try exact dI) only[hx,Nat.add_sub_cancel,hnx,push_cast,seval]
      refine⟨j+1+1,aR (by simp(disch:=try exact dI) only[Nat.add_sub_cancel,push_cast,seval]),⟨by omega,by omega,?_⟩,by omega⟩
      show ja _ (j+1)=true
      rw[ja,hall,hbx]
      simp;omega
   ·have hltI:¬ (i:Int)<3:=by omega
    obtain rfl:i=3:=by omega
    have hc:cH l 3=true:=hall
    have hal:=l7 l a (by omega) (3 - 1) (by omega)
    rw[eT,if_pos hc] at hR
    simp only[Nat.reduceSub] at hR hal
    generalize accP l a (2)=p at *
    cases hpt:jz p with
    | false=>
      rw[if_neg (by rw[hpt];simp)] at hR
      rw[hR]
      refine zgZ ?_
      refine ag (bI p (by omega)) rfl ?_
      simp(disch:=try exact dI) only[hpt,push_cast,seval]
    | true=>
      have hpl:p<=1114111:=by
       simp only[jz,Bool.and_eq_true,decide_eq_true_eq] at hpt;exact hpt.1
      by_cases he:ry p=l.take 3
      ·rw[if_pos ⟨hpt,he⟩] at hR
       rw[hR]
       refine zgZ ?_
       refine ag (bI p (by omega)) rfl ?_
       simp(disch:=try exact dI) only[hpt,push_cast,seval]
       refine ag (cu p hpl) rfl ?_
       simp(disch:=try exact dI) only[he,push_cast,seval]
      ·rw[if_neg (fun h=>he h.2)] at hR
       rw[hR]
       refine zgZ ?_
       refine ag (bI p (by omega)) rfl ?_
       simp(disch:=try exact dI) only[hpt,push_cast,seval]
       refine ag (cu p hpl) rfl ?_
       simp(disch:=try exact dI) only[he,push_cast,seval]
 ·have hlenI:(l.length:Int)<3:=by omega
  rw[if_neg hlen] at hR
  rw[hR]
  simp(disch:=try exact dI) only[l8,hne,hb,haI,Int.add_sub_cancel,push_cast,seval]
theorem TY (l:List UInt8)(b:UInt8)(hb:l[0]? = some b)(a:Nat)(ha:b.toNat=a+240)(h0:240<=b.toNat/\b.toNat<248)(hmax:l.length<=9223372036854775807)(r:Nat×Nat)(hR:r=if 4<=l.length then eT l 4 a else (0,0)):ae Tryz.prog au 165 [.str l] (.tup [.int .i64 r.1,.int .i64 r.2]):=by
 have hne:¬ l=[]:=by intro e;rw[e] at hb;simp at hb
 have hbl:b.toNat<256:=UInt8.toNat_lt _
 refine ae.intro l8.2 (by simp[l8]) ?_
 have f128:¬ (b.toNat:Int)<128:=by omega
 have f192:¬ (b.toNat:Int)<192:=by omega
 have f224:¬ (b.toNat:Int)<224:=by omega
 have f240:¬ (b.toNat:Int)<240:=by omega
 have f248:(b.toNat:Int)<248:=by omega
 have g192:(192:Int)<=b.toNat:=by omega
 have g224:(224:Int)<=b.toNat:=by omega
 have g240:(240:Int)<=b.toNat:=by omega
 have haI:(b.toNat:Int)=(a:Int)+240:=by omega
 by_cases hlen:4<=l.length
 ·have hlenI:¬ (l.length:Int)<4:=by omega
  rw[if_pos hlen] at hR
  simp(disch:=try exact dI) only[l8,hne,hb,haI,Int.add_sub_cancel,push_cast,seval]
  refine aC ([]) (fun i:Nat=>[(5,.pv (.int .i64 (accP l a (i - 1):Nat))),(7,.pv (.int .i64 (i:Int)))]) (fun i=>[]) (fun i=>1<=i/\i<=4/\ja (fun j=>decide (128<=byN l (j+1))&&decide (byN l (j+1)<192)) (i - 1)=true) (fun i=>4 - i) (1) ?_;intro e0 σ0 n0 h0;simp(disch:=try exact dI) only[push_cast,seval] at h0;obtain⟨rfl,rfl,rfl⟩:=h0;refine⟨?_,?_,?_⟩
  ·simp(disch:=try exact dI) only[accP,push_cast,seval]
  ·exact⟨by omega,by omega,rfl⟩
  ·rintro i ⟨hi1,hiN,hall⟩
   by_cases hlt:i<4
   ·have hltI:(i:Int)<4:=by omega
    obtain⟨x,hx⟩:∃ x,l[i]? = some x:=⟨_,List.getElem?_eq_getElem (by omega)⟩
    have hbx:=fV hx
    have hxl:x.toNat<256:=UInt8.toNat_lt _
    obtain⟨j,rfl⟩:∃ j,i=j+1:=⟨i - 1,by omega⟩
    have hal:=l7 l a (by omega) j (by omega)
    simp only[Nat.add_sub_cancel] at hall
    by_cases c1:x.toNat<128
    ·have c1I:(x.toNat:Int)<128:=by omega
     have hno:cH l 4=false:=ba (k:=j) (by rw[hbx];simp only[Bool.and_eq_false_iff,decide_eq_false_iff_not];omega) (by omega)
     rw[hR,eT,hno,if_neg (by simp)]
     simp(disch:=try exact dI) only[hx,push_cast,seval]
    ·have c1I:¬ (x.toNat:Int)<128:=by omega
     by_cases c2:192<=x.toNat
     ·have c2I:(192:Int)<=x.toNat:=by omega
      have hno:cH l 4=false:=ba (k:=j) (by rw[hbx];simp only[Bool.and_eq_false_iff,decide_eq_false_iff_not];omega) (by omega)
      rw[hR,eT,hno,if_neg (by simp)]
      simp(disch:=try exact dI) only[hx,push_cast,seval]
     ·have c2I:¬ (192:Int)<=x.toNat:=by omega
      have hnx:(64:Int)*(accP l a j:Nat)+x.toNat - 128=((accP l a (j+1):Nat):Int):=by
       rw[accP,hbx];omega
      simp(disch:=try exact dI) only[hx,Nat.add_sub_cancel,hnx,push_cast,seval]
      refine⟨j+1+1,aR (by simp(disch:=try exact dI) only[Nat.add_sub_cancel,push_cast,seval]),⟨by omega,by omega,?_⟩,by omega⟩
      show ja _ (j+1)=true
      rw[ja,hall,hbx]
      simp;omega
   ·have hltI:¬ (i:Int)<4:=by omega
    obtain rfl:i=4:=by omega
    have hc:cH l 4=true:=hall
    have hal:=l7 l a (by omega) (4 - 1) (by omega)
    rw[eT,if_pos hc] at hR
    simp only[Nat.reduceSub] at hR hal
    generalize accP l a (3)=p at *
    cases hpt:jz p with
    | false=>
      rw[if_neg (by rw[hpt];simp)] at hR
      rw[hR]
      refine zgZ ?_
      refine ag (bI p (by omega)) rfl ?_
      simp(disch:=try exact dI) only[hpt,push_cast,seval]
    | true=>
      have hpl:p<=1114111:=by
       simp only[jz,Bool.and_eq_true,decide_eq_true_eq] at hpt;exact hpt.1
      by_cases he:ry p=l.take 4
      ·rw[if_pos ⟨hpt,he⟩] at hR
       rw[hR]
       refine zgZ ?_
       refine ag (bI p (by omega)) rfl ?_
       simp(disch:=try exact dI) only[hpt,push_cast,seval]
       refine ag (cu p hpl) rfl ?_
       simp(disch:=try exact dI) only[he,push_cast,seval]
      ·rw[if_neg (fun h=>he h.2)] at hR
       rw[hR]
       refine zgZ ?_
       refine ag (bI p (by omega)) rfl ?_
       simp(disch:=try exact dI) only[hpt,push_cast,seval]
       refine ag (cu p hpl) rfl ?_
       simp(disch:=try exact dI) only[he,push_cast,seval]
 ·have hlenI:(l.length:Int)<4:=by omega
  rw[if_neg hlen] at hR
  rw[hR]
  simp(disch:=try exact dI) only[l8,hne,hb,haI,Int.add_sub_cancel,push_cast,seval]
theorem vM (l:List UInt8)(b:UInt8)(hb:l[0]? = some b)(h0:(128<=b.toNat/\b.toNat<192)\/248<=b.toNat):ae Tryz.prog au 165 [.str l] (.tup [.int .i64 0,.int .i64 0]):=by
 have hne:¬ l=[]:=by intro e;rw[e] at hb;simp at hb
 have hbl:b.toNat<256:=UInt8.toNat_lt _
 refine ae.intro l8.2 (by simp[l8]) ?_
 have f128:¬ (b.toNat:Int)<128:=by omega
 rcases h0 with ⟨h1,h2⟩ | h1
 ·have g192:¬ (192:Int)<=b.toNat:=by omega
  have g224:¬ (224:Int)<=b.toNat:=by omega
  have g240:¬ (240:Int)<=b.toNat:=by omega
  simp(disch:=try exact dI) only[l8,hne,hb,push_cast,seval]
 ·have g192:(192:Int)<=b.toNat:=by omega
  have g224:(224:Int)<=b.toNat:=by omega
  have g240:(240:Int)<=b.toNat:=by omega
  have f224:¬ (b.toNat:Int)<224:=by omega
  have f240:¬ (b.toNat:Int)<240:=by omega
  have f248:¬ (b.toNat:Int)<248:=by omega
  simp(disch:=try exact dI) only[l8,hne,hb,push_cast,seval]
theorem Ew:ae Tryz.prog au 165 [.str []] (.tup [.int .i64 0,.int .i64 0]):=by
 refine ae.intro l8.2 (by simp[l8]) ?_
 simp(disch:=try exact dI) only[l8,push_cast,seval]
end Go.Proofs.YtbaaokocnegdoaaGreatDoor
