/- A part of the proof for FixedwidthRefusesCardSaid. -/
import Derived.Test.YtedanlflegfomaaGreatDoorRefF
import Derived.Test.YtedanlflegfomaaGreatDoorCore5
import Derived.Test.YtedanlflegfomaaGreatDoorRefGSh
import Derived.Test.YtedanlflegfomaaGreatDoorRefGD2
set_option maxRecDepth 100000
set_option linter.unusedVariables false
set_option linter.unusedSimpArgs false
namespace Go.Proofs.YtedanlflegfomaaGreatDoor
open Go Go.Ab
attribute [local irreducible] vc
theorem bn (p:Nat)(hp:p≤1000000000):aq Tryz.prog aA 154 [.int .i64 p] (.bool (fG p)):=by
 refine aq.intro Ek (by simp[ER]) ?_
 by_cases h1:p≤1114111
 ·have h1I:(p:Int)≤1114111:=by omega
  by_cases h2:p<55296
  ·have h2I:(p:Int)<55296:=by omega
   simp(disch:=first|exact dI|fail) only[ER,fG,Bool.true_or,push_cast,seval]
  ·have h2I:¬ (p:Int)<55296:=by omega
   by_cases h3:57343<p
   ·have h3I:(57343:Int)<p:=by omega
    simp(disch:=first|exact dI|fail) only[ER,fG,push_cast,seval]
    simp[h3]
   ·have h3I:¬ (57343:Int)<p:=by omega
    simp(disch:=first|exact dI|fail) only[ER,fG,push_cast,seval]
    simp[h3]
 ·have h1I:¬ (p:Int)≤1114111:=by omega
  simp(disch:=first|exact dI|fail) only[ER,fG,push_cast,seval]
theorem bG (p:Nat)(hp:p≤1114111):aq Tryz.prog aA 155 [.int .i64 p] (.str (lz p)):=by
 refine aq.intro Ej (by simp[EQ]) ?_
 have e1:((192:Int)+(p:Int) / 64).toNat=192+p / 64:=by omega
 have e2:((128:Int)+(p:Int) % 64).toNat=128+p % 64:=by omega
 have e3:((224:Int)+(p:Int) / 4096).toNat=224+p / 4096:=by omega
 have e4:((128:Int)+(p:Int) / 64 % 64).toNat=128+p / 64 % 64:=by omega
 have e5:((240:Int)+(p:Int) / 262144).toNat=240+p / 262144:=by omega
 have e6:((128:Int)+(p:Int) / 4096 % 64).toNat=128+p / 4096 % 64:=by omega
 unfold lz
 by_cases h1:p<128
 ·have h1I:(p:Int)<128:=by omega
  rw[if_pos h1]
  simp(disch:=first|exact dI|fail) only[EQ,push_cast,seval]
 rw[if_neg h1]
 have h1I:¬ (p:Int)<128:=by omega
 by_cases h2:p<2048
 ·have h2I:(p:Int)<2048:=by omega
  rw[if_pos h2]
  simp(disch:=first|exact dI|fail) only[EQ,e1,e2,push_cast,seval]
 rw[if_neg h2]
 have h2I:¬ (p:Int)<2048:=by omega
 by_cases h3:p<65536
 ·have h3I:(p:Int)<65536:=by omega
  rw[if_pos h3]
  simp(disch:=first|exact dI|fail) only[EQ,e2,e3,e4,push_cast,seval]
 rw[if_neg h3]
 have h3I:¬ (p:Int)<65536:=by omega
 simp(disch:=first|exact dI|fail) only[EQ,e2,e4,e5,e6,push_cast,seval]
def accP (l:List UInt8)(a:Nat):Nat→Nat
 | 0=>a
 | i+1=>64*accP l a i+(byN l (i+1) - 128)
theorem g8 (l:List UInt8)(a:Nat)(ha:a<256)(i:Nat)(hi:i<4):accP l a i≤100000000:=by
 have h1:=dX l 1
 have h2:=dX l 2
 have h3:=dX l 3
 have:i=0∨i=1∨i=2∨i=3:=by omega
 rcases this with rfl | rfl | rfl | rfl<;>simp only[accP,Nat.zero_add,Nat.reduceAdd]<;>omega
def bQ (l:List UInt8)(n:Nat):Bool:=dR (fun j=>decide (128≤byN l (j+1))&&decide (byN l (j+1)<192)) (n - 1)
def de (l:List UInt8)(n a:Nat):Nat×Nat:=if bQ l n=true then (if fG (accP l a (n - 1))=true∧lz (accP l a (n - 1))=l.take n then (accP l a (n - 1),n) else (0,0)) else (0,0)
set_option maxHeartbeats 4000000 in
theorem JP (l:List UInt8)(b:UInt8)(hb:l[0]? = some b)(h0:b.toNat<128)(hmax:l.length≤9223372036854775807)(r:Nat×Nat)(hR:r=if 1≤l.length then de l 1 b.toNat else (0,0)):aq Tryz.prog aA 119 [.str l] (.tup [.int .i64 r.1,.int .i64 r.2]):=by
 have hne:¬ l=[]:=by intro e;rw[e] at hb;simp at hb
 have hbl:b.toNat<256:=UInt8.toNat_lt _
 refine aq.intro fq (by simp[jH]) ?_
 have f128:(b.toNat:Int)<128:=by omega
 have f192:(b.toNat:Int)<192:=by omega
 have f224:(b.toNat:Int)<224:=by omega
 have f240:(b.toNat:Int)<240:=by omega
 have f248:(b.toNat:Int)<248:=by omega
 have g192:¬ (192:Int)≤b.toNat:=by omega
 have g224:¬ (224:Int)≤b.toNat:=by omega
 have g240:¬ (240:Int)≤b.toNat:=by omega
 by_cases hlen:1≤l.length
 ·have hlenI:¬ (l.length:Int)<1:=by omega
  rw[if_pos hlen] at hR
  simp(disch:=first|exact dI|fail) only[jH,hne,hb,push_cast,seval]
  refine az ([]) (fun i:Nat=>[(5,.pv (.int .i64 (accP l b.toNat (i - 1):Nat))),(7,.pv (.int .i64 (i:Int)))]) (fun i=>[]) (fun i=>1≤i∧i≤1∧dR (fun j=>decide (128≤byN l (j+1))&&decide (byN l (j+1)<192)) (i - 1)=true) (fun i=>1 - i) (1) ?_;intro e0 σ0 n0 h0;simp(disch:=first|exact dI|fail) only[push_cast,seval] at h0;obtain⟨rfl,rfl,rfl⟩:=h0;refine⟨?_,?_,?_⟩
  ·simp(disch:=first|exact dI|fail) only[accP,push_cast,seval]
  ·exact⟨by omega,by omega,rfl⟩
  ·rintro i ⟨hi1,hiN,hall⟩
   by_cases hlt:i<1
   ·exact absurd hlt (by omega)
   ·have hltI:¬ (i:Int)<1:=by omega
    obtain rfl:i=1:=by omega
    have hc:bQ l 1=true:=hall
    have hal:=g8 l b.toNat (by omega) (1 - 1) (by omega)
    rw[de,if_pos hc] at hR
    simp only[Nat.reduceSub] at hR hal
    generalize accP l b.toNat (0)=p at *
    cases hpt:fG p with
    | false=>
      rw[if_neg (by rw[hpt];simp)] at hR
      rw[hR]
      simp(disch:=first|exact dI|fail) only[push_cast,seval]
      refine au (bn p (by omega)) rfl ?_
      simp(disch:=first|exact dI|fail) only[hpt,push_cast,seval]
    | true=>
      have hpl:p≤1114111:=by
       simp only[fG,Bool.and_eq_true,decide_eq_true_eq] at hpt;exact hpt.1
      by_cases he:lz p=l.take 1
      ·rw[if_pos ⟨hpt,he⟩] at hR
       rw[hR]
       simp(disch:=first|exact dI|fail) only[push_cast,seval]
       refine au (bn p (by omega)) rfl ?_
       simp(disch:=first|exact dI|fail) only[hpt,push_cast,seval]
       refine au (bG p hpl) rfl ?_
       simp(disch:=first|exact dI|fail) only[he,push_cast,seval]
      ·rw[if_neg (fun h=>he h.2)] at hR
       rw[hR]
       simp(disch:=first|exact dI|fail) only[push_cast,seval]
       refine au (bn p (by omega)) rfl ?_
       simp(disch:=first|exact dI|fail) only[hpt,push_cast,seval]
       refine au (bG p hpl) rfl ?_
       simp(disch:=first|exact dI|fail) only[he,push_cast,seval]
 ·have hlenI:(l.length:Int)<1:=by omega
  rw[if_neg hlen] at hR
  rw[hR]
  simp(disch:=first|exact dI|fail) only[jH,hne,hb,push_cast,seval]
set_option maxHeartbeats 4000000 in
theorem JO (l:List UInt8)(b:UInt8)(hb:l[0]? = some b)(a:Nat)(ha:b.toNat=a+192)(h0:192≤b.toNat∧b.toNat<224)(hmax:l.length≤9223372036854775807)(r:Nat×Nat)(hR:r=if 2≤l.length then de l 2 a else (0,0)):aq Tryz.prog aA 119 [.str l] (.tup [.int .i64 r.1,.int .i64 r.2]):=by
 have hne:¬ l=[]:=by intro e;rw[e] at hb;simp at hb
 have hbl:b.toNat<256:=UInt8.toNat_lt _
 refine aq.intro fq (by simp[jH]) ?_
 have f128:¬ (b.toNat:Int)<128:=by omega
 have f192:¬ (b.toNat:Int)<192:=by omega
 have f224:(b.toNat:Int)<224:=by omega
 have f240:(b.toNat:Int)<240:=by omega
 have f248:(b.toNat:Int)<248:=by omega
 have g192:(192:Int)≤b.toNat:=by omega
 have g224:¬ (224:Int)≤b.toNat:=by omega
 have g240:¬ (240:Int)≤b.toNat:=by omega
 have haI:(b.toNat:Int)=(a:Int)+192:=by omega
 by_cases hlen:2≤l.length
 ·have hlenI:¬ (l.length:Int)<2:=by omega
  rw[if_pos hlen] at hR
  simp(disch:=first|exact dI|fail) only[jH,hne,hb,haI,Int.add_sub_cancel,push_cast,seval]
  refine az ([]) (fun i:Nat=>[(5,.pv (.int .i64 (accP l a (i - 1):Nat))),(7,.pv (.int .i64 (i:Int)))]) (fun i=>[]) (fun i=>1≤i∧i≤2∧dR (fun j=>decide (128≤byN l (j+1))&&decide (byN l (j+1)<192)) (i - 1)=true) (fun i=>2 - i) (1) ?_;intro e0 σ0 n0 h0;simp(disch:=first|exact dI|fail) only[push_cast,seval] at h0;obtain⟨rfl,rfl,rfl⟩:=h0;refine⟨?_,?_,?_⟩
  ·simp(disch:=first|exact dI|fail) only[accP,push_cast,seval]
  ·exact⟨by omega,by omega,rfl⟩
  ·rintro i ⟨hi1,hiN,hall⟩
   by_cases hlt:i<2
   ·have hltI:(i:Int)<2:=by omega
    obtain⟨x,hx⟩:∃ x,l[i]? = some x:=⟨_,List.getElem?_eq_getElem (by omega)⟩
    have hbx:=dY hx
    have hxl:x.toNat<256:=UInt8.toNat_lt _
    obtain⟨j,rfl⟩:∃ j,i=j+1:=⟨i - 1,by omega⟩
    have hal:=g8 l a (by omega) j (by omega)
    simp only[Nat.add_sub_cancel] at hall
    by_cases c1:x.toNat<128
    ·have c1I:(x.toNat:Int)<128:=by omega
     have hno:bQ l 2=false:=aT (k:=j) (by rw[hbx];simp only[Bool.and_eq_false_iff,decide_eq_false_iff_not];omega) (by omega)
     rw[hR,de,hno,if_neg (by simp)]
     simp(disch:=first|exact dI|fail) only[hx,push_cast,seval]
    ·have c1I:¬ (x.toNat:Int)<128:=by omega
     by_cases c2:192≤x.toNat
     ·have c2I:(192:Int)≤x.toNat:=by omega
      have hno:bQ l 2=false:=aT (k:=j) (by rw[hbx];simp only[Bool.and_eq_false_iff,decide_eq_false_iff_not];omega) (by omega)
      rw[hR,de,hno,if_neg (by simp)]
      simp(disch:=first|exact dI|fail) only[hx,push_cast,seval]
     ·have c2I:¬ (192:Int)≤x.toNat:=by omega
      have hnx:(64:Int)*(accP l a j:Nat)+x.toNat - 128=((accP l a (j+1):Nat):Int):=by
       rw[accP,hbx];omega
      simp(disch:=first|exact dI|fail) only[hx,Nat.add_sub_cancel,hnx,push_cast,seval]
      refine⟨j+1+1,bl (by simp(disch:=first|exact dI|fail) only[Nat.add_sub_cancel,push_cast,seval]),⟨by omega,by omega,?_⟩,by omega⟩
      show dR _ (j+1)=true
      rw[dR,hall,hbx]
      simp;omega
   ·have hltI:¬ (i:Int)<2:=by omega
    obtain rfl:i=2:=by omega
    have hc:bQ l 2=true:=hall
    have hal:=g8 l a (by omega) (2 - 1) (by omega)
    rw[de,if_pos hc] at hR
    simp only[Nat.reduceSub] at hR hal
    generalize accP l a (1)=p at *
    cases hpt:fG p with
    | false=>
      rw[if_neg (by rw[hpt];simp)] at hR
      rw[hR]
      simp(disch:=first|exact dI|fail) only[push_cast,seval]
      refine au (bn p (by omega)) rfl ?_
      simp(disch:=first|exact dI|fail) only[hpt,push_cast,seval]
    | true=>
      have hpl:p≤1114111:=by
       simp only[fG,Bool.and_eq_true,decide_eq_true_eq] at hpt;exact hpt.1
      by_cases he:lz p=l.take 2
      ·rw[if_pos ⟨hpt,he⟩] at hR
       rw[hR]
       simp(disch:=first|exact dI|fail) only[push_cast,seval]
       refine au (bn p (by omega)) rfl ?_
       simp(disch:=first|exact dI|fail) only[hpt,push_cast,seval]
       refine au (bG p hpl) rfl ?_
       simp(disch:=first|exact dI|fail) only[he,push_cast,seval]
      ·rw[if_neg (fun h=>he h.2)] at hR
       rw[hR]
       simp(disch:=first|exact dI|fail) only[push_cast,seval]
       refine au (bn p (by omega)) rfl ?_
       simp(disch:=first|exact dI|fail) only[hpt,push_cast,seval]
       refine au (bG p hpl) rfl ?_
       simp(disch:=first|exact dI|fail) only[he,push_cast,seval]
 ·have hlenI:(l.length:Int)<2:=by omega
  rw[if_neg hlen] at hR
  rw[hR]
  simp(disch:=first|exact dI|fail) only[jH,hne,hb,haI,Int.add_sub_cancel,push_cast,seval]
set_option maxHeartbeats 4000000 in
theorem JN (l:List UInt8)(b:UInt8)(hb:l[0]? = some b)(a:Nat)(ha:b.toNat=a+224)(h0:224≤b.toNat∧b.toNat<240)(hmax:l.length≤9223372036854775807)(r:Nat×Nat)(hR:r=if 3≤l.length then de l 3 a else (0,0)):aq Tryz.prog aA 119 [.str l] (.tup [.int .i64 r.1,.int .i64 r.2]):=by
 have hne:¬ l=[]:=by intro e;rw[e] at hb;simp at hb
 have hbl:b.toNat<256:=UInt8.toNat_lt _
 refine aq.intro fq (by simp[jH]) ?_
 have f128:¬ (b.toNat:Int)<128:=by omega
 have f192:¬ (b.toNat:Int)<192:=by omega
 have f224:¬ (b.toNat:Int)<224:=by omega
 have f240:(b.toNat:Int)<240:=by omega
 have f248:(b.toNat:Int)<248:=by omega
 have g192:(192:Int)≤b.toNat:=by omega
 have g224:(224:Int)≤b.toNat:=by omega
 have g240:¬ (240:Int)≤b.toNat:=by omega
 have haI:(b.toNat:Int)=(a:Int)+224:=by omega
 by_cases hlen:3≤l.length
 ·have hlenI:¬ (l.length:Int)<3:=by omega
  rw[if_pos hlen] at hR
  simp(disch:=first|exact dI|fail) only[jH,hne,hb,haI,Int.add_sub_cancel,push_cast,seval]
  refine az ([]) (fun i:Nat=>[(5,.pv (.int .i64 (accP l a (i - 1):Nat))),(7,.pv (.int .i64 (i:Int)))]) (fun i=>[]) (fun i=>1≤i∧i≤3∧dR (fun j=>decide (128≤byN l (j+1))&&decide (byN l (j+1)<192)) (i - 1)=true) (fun i=>3 - i) (1) ?_;intro e0 σ0 n0 h0;simp(disch:=first|exact dI|fail) only[push_cast,seval] at h0;obtain⟨rfl,rfl,rfl⟩:=h0;refine⟨?_,?_,?_⟩
  ·simp(disch:=first|exact dI|fail) only[accP,push_cast,seval]
  ·exact⟨by omega,by omega,rfl⟩
  ·rintro i ⟨hi1,hiN,hall⟩
   by_cases hlt:i<3
   ·have hltI:(i:Int)<3:=by omega
    obtain⟨x,hx⟩:∃ x,l[i]? = some x:=⟨_,List.getElem?_eq_getElem (by omega)⟩
    have hbx:=dY hx
    have hxl:x.toNat<256:=UInt8.toNat_lt _
    obtain⟨j,rfl⟩:∃ j,i=j+1:=⟨i - 1,by omega⟩
    have hal:=g8 l a (by omega) j (by omega)
    simp only[Nat.add_sub_cancel] at hall
    by_cases c1:x.toNat<128
    ·have c1I:(x.toNat:Int)<128:=by omega
     have hno:bQ l 3=false:=aT (k:=j) (by rw[hbx];simp only[Bool.and_eq_false_iff,decide_eq_false_iff_not];omega) (by omega)
     rw[hR,de,hno,if_neg (by simp)]
     simp(disch:=first|exact dI|fail) only[hx,push_cast,seval]
    ·have c1I:¬ (x.toNat:Int)<128:=by omega
     by_cases c2:192≤x.toNat
     ·have c2I:(192:Int)≤x.toNat:=by omega
      have hno:bQ l 3=false:=aT (k:=j) (by rw[hbx];simp only[Bool.and_eq_false_iff,decide_eq_false_iff_not];omega) (by omega)
      rw[hR,de,hno,if_neg (by simp)]
      simp(disch:=first|exact dI|fail) only[hx,push_cast,seval]
     ·have c2I:¬ (192:Int)≤x.toNat:=by omega
      have hnx:(64:Int)*(accP l a j:Nat)+x.toNat - 128=((accP l a (j+1):Nat):Int):=by
       rw[accP,hbx];omega
      simp(disch:=first|exact dI|fail) only[hx,Nat.add_sub_cancel,hnx,push_cast,seval]
      refine⟨j+1+1,bl (by simp(disch:=first|exact dI|fail) only[Nat.add_sub_cancel,push_cast,seval]),⟨by omega,by omega,?_⟩,by omega⟩
      show dR _ (j+1)=true
      rw[dR,hall,hbx]
      simp;omega
   ·have hltI:¬ (i:Int)<3:=by omega
    obtain rfl:i=3:=by omega
    have hc:bQ l 3=true:=hall
    have hal:=g8 l a (by omega) (3 - 1) (by omega)
    rw[de,if_pos hc] at hR
    simp only[Nat.reduceSub] at hR hal
    generalize accP l a (2)=p at *
    cases hpt:fG p with
    | false=>
      rw[if_neg (by rw[hpt];simp)] at hR
      rw[hR]
      simp(disch:=first|exact dI|fail) only[push_cast,seval]
      refine au (bn p (by omega)) rfl ?_
      simp(disch:=first|exact dI|fail) only[hpt,push_cast,seval]
    | true=>
      have hpl:p≤1114111:=by
       simp only[fG,Bool.and_eq_true,decide_eq_true_eq] at hpt;exact hpt.1
      by_cases he:lz p=l.take 3
      ·rw[if_pos ⟨hpt,he⟩] at hR
       rw[hR]
       simp(disch:=first|exact dI|fail) only[push_cast,seval]
       refine au (bn p (by omega)) rfl ?_
       simp(disch:=first|exact dI|fail) only[hpt,push_cast,seval]
       refine au (bG p hpl) rfl ?_
       simp(disch:=first|exact dI|fail) only[he,push_cast,seval]
      ·rw[if_neg (fun h=>he h.2)] at hR
       rw[hR]
       simp(disch:=first|exact dI|fail) only[push_cast,seval]
       refine au (bn p (by omega)) rfl ?_
       simp(disch:=first|exact dI|fail) only[hpt,push_cast,seval]
       refine au (bG p hpl) rfl ?_
       simp(disch:=first|exact dI|fail) only[he,push_cast,seval]
 ·have hlenI:(l.length:Int)<3:=by omega
  rw[if_neg hlen] at hR
  rw[hR]
  simp(disch:=first|exact dI|fail) only[jH,hne,hb,haI,Int.add_sub_cancel,push_cast,seval]
set_option maxHeartbeats 4000000 in
theorem JM (l:List UInt8)(b:UInt8)(hb:l[0]? = some b)(a:Nat)(ha:b.toNat=a+240)(h0:240≤b.toNat∧b.toNat<248)(hmax:l.length≤9223372036854775807)(r:Nat×Nat)(hR:r=if 4≤l.length then de l 4 a else (0,0)):aq Tryz.prog aA 119 [.str l] (.tup [.int .i64 r.1,.int .i64 r.2]):=by
 have hne:¬ l=[]:=by intro e;rw[e] at hb;simp at hb
 have hbl:b.toNat<256:=UInt8.toNat_lt _
 refine aq.intro fq (by simp[jH]) ?_
 have f128:¬ (b.toNat:Int)<128:=by omega
 have f192:¬ (b.toNat:Int)<192:=by omega
 have f224:¬ (b.toNat:Int)<224:=by omega
 have f240:¬ (b.toNat:Int)<240:=by omega
 have f248:(b.toNat:Int)<248:=by omega
 have g192:(192:Int)≤b.toNat:=by omega
 have g224:(224:Int)≤b.toNat:=by omega
 have g240:(240:Int)≤b.toNat:=by omega
 have haI:(b.toNat:Int)=(a:Int)+240:=by omega
 by_cases hlen:4≤l.length
 ·have hlenI:¬ (l.length:Int)<4:=by omega
  rw[if_pos hlen] at hR
  simp(disch:=first|exact dI|fail) only[jH,hne,hb,haI,Int.add_sub_cancel,push_cast,seval]
  refine az ([]) (fun i:Nat=>[(5,.pv (.int .i64 (accP l a (i - 1):Nat))),(7,.pv (.int .i64 (i:Int)))]) (fun i=>[]) (fun i=>1≤i∧i≤4∧dR (fun j=>decide (128≤byN l (j+1))&&decide (byN l (j+1)<192)) (i - 1)=true) (fun i=>4 - i) (1) ?_;intro e0 σ0 n0 h0;simp(disch:=first|exact dI|fail) only[push_cast,seval] at h0;obtain⟨rfl,rfl,rfl⟩:=h0;refine⟨?_,?_,?_⟩
  ·simp(disch:=first|exact dI|fail) only[accP,push_cast,seval]
  ·exact⟨by omega,by omega,rfl⟩
  ·rintro i ⟨hi1,hiN,hall⟩
   by_cases hlt:i<4
   ·have hltI:(i:Int)<4:=by omega
    obtain⟨x,hx⟩:∃ x,l[i]? = some x:=⟨_,List.getElem?_eq_getElem (by omega)⟩
    have hbx:=dY hx
    have hxl:x.toNat<256:=UInt8.toNat_lt _
    obtain⟨j,rfl⟩:∃ j,i=j+1:=⟨i - 1,by omega⟩
    have hal:=g8 l a (by omega) j (by omega)
    simp only[Nat.add_sub_cancel] at hall
    by_cases c1:x.toNat<128
    ·have c1I:(x.toNat:Int)<128:=by omega
     have hno:bQ l 4=false:=aT (k:=j) (by rw[hbx];simp only[Bool.and_eq_false_iff,decide_eq_false_iff_not];omega) (by omega)
     rw[hR,de,hno,if_neg (by simp)]
     simp(disch:=first|exact dI|fail) only[hx,push_cast,seval]
    ·have c1I:¬ (x.toNat:Int)<128:=by omega
     by_cases c2:192≤x.toNat
     ·have c2I:(192:Int)≤x.toNat:=by omega
      have hno:bQ l 4=false:=aT (k:=j) (by rw[hbx];simp only[Bool.and_eq_false_iff,decide_eq_false_iff_not];omega) (by omega)
      rw[hR,de,hno,if_neg (by simp)]
      simp(disch:=first|exact dI|fail) only[hx,push_cast,seval]
     ·have c2I:¬ (192:Int)≤x.toNat:=by omega
      have hnx:(64:Int)*(accP l a j:Nat)+x.toNat - 128=((accP l a (j+1):Nat):Int):=by
       rw[accP,hbx];omega
      simp(disch:=first|exact dI|fail) only[hx,Nat.add_sub_cancel,hnx,push_cast,seval]
      refine⟨j+1+1,bl (by simp(disch:=first|exact dI|fail) only[Nat.add_sub_cancel,push_cast,seval]),⟨by omega,by omega,?_⟩,by omega⟩
      show dR _ (j+1)=true
      rw[dR,hall,hbx]
      simp;omega
   ·have hltI:¬ (i:Int)<4:=by omega
    obtain rfl:i=4:=by omega
    have hc:bQ l 4=true:=hall
    have hal:=g8 l a (by omega) (4 - 1) (by omega)
    rw[de,if_pos hc] at hR
    simp only[Nat.reduceSub] at hR hal
    generalize accP l a (3)=p at *
    cases hpt:fG p with
    | false=>
      rw[if_neg (by rw[hpt];simp)] at hR
      rw[hR]
      simp(disch:=first|exact dI|fail) only[push_cast,seval]
      refine au (bn p (by omega)) rfl ?_
      simp(disch:=first|exact dI|fail) only[hpt,push_cast,seval]
    | true=>
      have hpl:p≤1114111:=by
       simp only[fG,Bool.and_eq_true,decide_eq_true_eq] at hpt;exact hpt.1
      by_cases he:lz p=l.take 4
      ·rw[if_pos ⟨hpt,he⟩] at hR
       rw[hR]
       simp(disch:=first|exact dI|fail) only[push_cast,seval]
       refine au (bn p (by omega)) rfl ?_
       simp(disch:=first|exact dI|fail) only[hpt,push_cast,seval]
       refine au (bG p hpl) rfl ?_
       simp(disch:=first|exact dI|fail) only[he,push_cast,seval]
      ·rw[if_neg (fun h=>he h.2)] at hR
       rw[hR]
       simp(disch:=first|exact dI|fail) only[push_cast,seval]
       refine au (bn p (by omega)) rfl ?_
       simp(disch:=first|exact dI|fail) only[hpt,push_cast,seval]
       refine au (bG p hpl) rfl ?_
       simp(disch:=first|exact dI|fail) only[he,push_cast,seval]
 ·have hlenI:(l.length:Int)<4:=by omega
  rw[if_neg hlen] at hR
  rw[hR]
  simp(disch:=first|exact dI|fail) only[jH,hne,hb,haI,Int.add_sub_cancel,push_cast,seval]
theorem og (l:List UInt8)(b:UInt8)(hb:l[0]? = some b)(h0:(128≤b.toNat∧b.toNat<192)∨248≤b.toNat):aq Tryz.prog aA 119 [.str l] (.tup [.int .i64 0,.int .i64 0]):=by
 have hne:¬ l=[]:=by intro e;rw[e] at hb;simp at hb
 have hbl:b.toNat<256:=UInt8.toNat_lt _
 refine aq.intro fq (by simp[jH]) ?_
 have f128:¬ (b.toNat:Int)<128:=by omega
 rcases h0 with ⟨h1,h2⟩ | h1
 ·have g192:¬ (192:Int)≤b.toNat:=by omega
  have g224:¬ (224:Int)≤b.toNat:=by omega
  have g240:¬ (240:Int)≤b.toNat:=by omega
  simp(disch:=first|exact dI|fail) only[jH,hne,hb,push_cast,seval]
 ·have g192:(192:Int)≤b.toNat:=by omega
  have g224:(224:Int)≤b.toNat:=by omega
  have g240:(240:Int)≤b.toNat:=by omega
  have f224:¬ (b.toNat:Int)<224:=by omega
  have f240:¬ (b.toNat:Int)<240:=by omega
  have f248:¬ (b.toNat:Int)<248:=by omega
  simp(disch:=first|exact dI|fail) only[jH,hne,hb,push_cast,seval]
theorem vE:aq Tryz.prog aA 119 [.str []] (.tup [.int .i64 0,.int .i64 0]):=by
 refine aq.intro fq (by simp[jH]) ?_
 simp(disch:=first|exact dI|fail) only[jH,push_cast,seval]
end Go.Proofs.YtedanlflegfomaaGreatDoor
