/- A part. -/
import Derived.Test.YtngchmkoadaecaaGreatDoorPbJI
set_option linter.unusedVariables false
set_option linter.unusedSimpArgs false
set_option maxRecDepth 100000
open List renaming take->X9,length_cons->Xa,getElem?_eq_getElem->WT,mem_of_getElem?->WV,map_append->Xe,take_of_length_le->WY,length_map->XB,length_nil->Xn,map_cons->Xq,cons_append->XA
open Option renaming getD_some->XK,isSome_some->X8
namespace Go.Proofs.YtngchmkoadaecaaGreatDoor
open Go Go.Ab
theorem EB (d:Nat)(h:d<10):(X9 (d+1) [48,49,50,51,52,53,54,55,56,57]).drop d=[UInt8.ofNat (48+d)]:=by
 have:∀ d:Fin 10,(X9 (d.val+1) [48,49,50,51,52,53,54,55,56,57]).drop d.val=[UInt8.ofNat (48+d.val)]:=by decide
 exact this ⟨d,h⟩
theorem mq (d:Nat)(h:d<10):List.drop d (48::X9 d [49,50,51,52,53,54,55,56,57])=[UInt8.ofNat (48+d)]:=EB d h
theorem pk (k:Nat)(h:(k:Int)<=9223372036854775807):el k=Lib.decDigits k:=by
 rw[jz (by omega) h,Lib.itoa,if_neg (by omega),Int.toNat_natCast]
theorem pj (k:Nat)(h0:0<k)(h:(k:Int)<=9223372036854775808):el (-(k:Int))=45::Lib.decDigits k:=by
 rw[jz (by omega) (by omega),Lib.itoa,if_pos (by omega),Int.natAbs_neg,Int.natAbs_natCast]
theorem pM {k:Nat}(h:k<10):Lib.decDigits k=[UInt8.ofNat (48+k)]:=by rw[Lib.decDigits,dif_pos h]
theorem EC {k:Nat}(h:¬ k<10):Lib.decDigits k=Lib.decDigits (k / 10)++[UInt8.ofNat (48+k % 10)]:=by rw[Lib.decDigits,dif_neg h]
theorem tg (k:Nat)(h:(k:Int)<=9223372036854775807):ap Tryz.prog aC 95 [.int .i64 k] (.str (Lib.decDigits k)):=by
 induction k using Nat.strongRecOn with
 | _ k ih=>
   have hq:(k:Int).tdiv 10=(k:Int) / 10:=by rw[Int.tdiv_eq_ediv_of_nonneg (by omega)]
   have hr:(k:Int).tmod 10=(k:Int) % 10:=by rw[Int.tmod_eq_emod_of_nonneg (by omega)]
   have hd:=mq (k % 10) (by omega)
   have h10:k % 10<10:=by omega
   have hlen:=ek ((k / 10:Nat):Int)
   rw[pk _ (by omega)] at hlen
   refine ap.intro Q95.2 (by simp[Q95]) ?_
   by_cases hk:k<10
   ·have hk':¬ (10:Int)<=k:=by omega
    have hk0:¬ (k:Int)<0:=by omega
    have hm:k % 10=k:=by omega
    rw[hm] at hd
    have hr:(k:Int).tmod 10=k:=by omega
    have ht:((k:Int)+1).toNat=k+1:=by omega
    simp(disch:=try exact dI) only[Q95,hq,hr,hd,ht,push_cast,seval]
    exact (pM hk).symm
   ·have hk':(10:Int)<=k:=by omega
    have hk0:¬ (k:Int)<0:=by omega
    have ht:((k:Int) % 10+1).toNat=k % 10+1:=by omega
    have ht0:((k:Int) % 10).toNat=k % 10:=by omega
    simp(disch:=try exact dI) only[Q95,hq,hr,hd,ht,ht0,push_cast,seval]
    refine ab.pure (ih (k / 10) (by omega) (by omega)) rfl ?_
    refine zgZ ?_
    exact (EC hk).symm
theorem mr (n:Int)(h:I64 n):ap Tryz.prog aC 95 [.int .i64 n] (.str (el n)):=by
 obtain⟨h1,h2⟩:=h
 rcases Int.lt_or_le n 0 with hn | hn
 ·obtain⟨k,rfl⟩:∃ k:Nat,n = -(k:Int):=⟨n.natAbs,by omega⟩
  have key:∀ k:Nat,0<k->(k:Int)<=9223372036854775808->ap Tryz.prog aC 95 [.int .i64 (-(k:Int))] (.str (45::Lib.decDigits k)):=by
   intro k
   induction k using Nat.strongRecOn with
   | _ k ih=>
     intro h0 hk
     have hq:(-(k:Int)).tdiv 10 = -((k:Int) / 10):=by rw[Int.neg_tdiv,Int.tdiv_eq_ediv_of_nonneg (by omega)]
     have hr:(-(k:Int)).tmod 10 = -((k:Int) % 10):=by rw[Int.neg_tmod,Int.tmod_eq_emod_of_nonneg (by omega)]
     have hd:=mq (k % 10) (by omega)
     have h10:k % 10<10:=by omega
     have hneg:-(k:Int)<0:=by omega
     have hlen:=ek (-((k / 10:Nat):Int))
     by_cases hs:k<10
     ·have hq0:-((k:Int) / 10)=0:=by omega
      have hw:(0:Int) - -(k:Int)=k:=by omega
      have ht:((k:Int)+1).toNat=k+1:=by omega
      have hm:k % 10=k:=by omega
      rw[hm] at hd
      refine ap.intro Q95.2 (by simp[Q95]) ?_
      simp(disch:=try exact dI) only[Q95,hq,hr,hq0,hw,ht,hd,push_cast,seval]
      rw[pM hs]
     ·have hq0:¬ -((k:Int) / 10)=0:=by omega
      have hw:(0:Int) - -((k:Int) % 10)=(k:Int) % 10:=by omega
      have ht0:((k:Int) % 10).toNat=k % 10:=by omega
      have ht:((k:Int) % 10+1).toNat=k % 10+1:=by omega
      rw[pj _ (by omega) (by omega),Xa] at hlen
      refine ap.intro Q95.2 (by simp[Q95]) ?_
      simp(disch:=try exact dI) only[Q95,hq,hr,hq0,hw,ht,ht0,hd,push_cast,seval]
      refine ag (ih (k / 10) (by omega) (by omega) (by omega)) rfl ?_
      simp(disch:=try exact dI) only[hq,hr,hq0,hw,ht,ht0,hd,push_cast,seval]
      rw[EC hs]
  rw[pj k (by omega) (by omega)]
  exact key k (by omega) (by omega)
 ·obtain⟨k,rfl⟩:∃ k:Nat,n=(k:Int):=⟨n.toNat,by omega⟩
  rw[pk k h2]
  exact tg k h2
theorem gS (sep:List UInt8):∀ l:List (List UInt8),(∀ x∈l,x.length<=21)->(dB sep l).length<=l.length*(21+sep.length)
 | [],_=>by simp[dB]
 | [x],h=>by have:=h x (by simp);simp[dB];omega
 | x::y::r,h=>by
   have h1:=gS sep (y::r) fun z hz=>h z (by simp[hz])
   have:=h x (by simp)
   simp only[dB,List.length_append,Xa] at h1 ⊢
   rw[Nat.succ_mul];omega
theorem kj (l:List Int):∀ x∈l.map el,x.length<=21:=by
 intro x hx
 obtain⟨n,_,rfl⟩:=List.mem_map.1 hx
 exact ek n
theorem Dr (l:List Int)(sep:List UInt8)(hl:l.length<=1000)(hs:sep.length<=10)(hok:∀ x∈l,I64 x):ap Tryz.prog aC 48 [.list (l.map (PV.int .i64)),.str sep] (.str (dB sep (l.map el))):=by
 refine ap.intro Q48.2 (by simp[Q48]) ?_
 have hjl:=gS sep (l.map el) (kj l)
 simp(disch:=try exact dI) only[Q48,push_cast,seval]
 refine au ([(5,0,9,1)]) (fun i:Nat=>[(5,.olist 0 1 (((l.take i).map el).map PV.str)),(10,.pv (.int .i64 (i:Int)))]) (fun _=>[]) (fun i=>i<=l.length) (fun i=>l.length - i) (0) ?_;intro e0 σ0 n0 h0;simp(disch:=try exact dI) only[push_cast,seval] at h0;obtain⟨rfl,rfl,rfl⟩:=h0;refine⟨?_,?_,?_⟩
 ·exact qsZ
 ·omega
 intro i hi
 by_cases hlt:i<l.length
 ·have hltI:(i:Int)<l.length:=by omega
  obtain⟨x,hx⟩:∃ x,l[i]? = some x:=⟨_,WT hlt⟩
  obtain⟨h1,h2⟩:=hok x (WV hx)
  have hts:=aE hx
  simp(disch:=try exact dI) only[hx,push_cast,seval]
  refine ab.pure (Dx x h1 h2) rfl ?_
  refine zgZ ?_
  exact⟨i+1,aJ (by simp(disch:=try exact dI) only[hts,Xe,push_cast,seval]),by omega,by omega⟩
 ·have hltI:¬ (i:Int)<l.length:=by omega
  have he:l.take i=l:=WY (by omega)
  simp(disch:=try exact dI) only[he,push_cast,seval]
  refine ab.pure (Du (l.map el) sep (by simp;omega) (Nat.le_trans hjl (by
   simp only[XB]
   have:l.length*(21+sep.length)<=1000*31:=Nat.mul_le_mul hl (by omega)
   omega))) qsZ ?_
  exact qsZ
def jn (route:Int)(place:List Int):List UInt8:=115::dB [95] ((route::place).map el)
theorem tw (route:Int)(place:List Int)(hr:I64 route)(hl:place.length<=900)(hok:∀ x∈place,I64 x):ap Tryz.prog aC 24 [.int .i64 route,.list (place.map (PV.int .i64))] (.str (jn route place)):=by
 refine ap.intro Q24.2 (by simp[Q24]) ?_
 have hj:=Dr (route::place) [95] (by simp;omega) (by simp) (by simp;exact⟨hr,hok⟩)
 have hjl:=gS [95] ((route::place).map el) (kj _)
 simp only[XB,Xa,Xn] at hjl
 have hb:(dB [95] ((route::place).map el)).length<=30000:=by omega
 rw[Xq,Xq] at hj
 rw[Xq] at hb
 simp(disch:=try exact dI) only[Q24,push_cast,seval]
 refine ab.pure hj qsZ ?_
 refine zgZ ?_
 rfl
theorem l9 (sep:List UInt8)(y:List UInt8):∀ (x:List UInt8) (l:List (List UInt8)),dB sep (x::(l++[y]))=dB sep (x::l)++(sep++y)
 | x,[]=>by simp[dB]
 | x,z::r=>by
   have:=l9 sep y z r
   simp only[XA,dB,this,List.append_assoc]
theorem Fh (route:Int)(place:List Int)(hl:place.length<=900):(jn route place).length<=30000:=by
 have hjl:=gS [95] ((route::place).map el) (kj _)
 simp only[XB,Xa,Xn] at hjl
 simp only[jn,Xa];omega
theorem Aa (route:Int)(l:List Int)(x:Int):jn route (l++[x])=jn route l++(95::el x):=by
 simp only[jn,Xq,Xe,List.map_nil,l9,XA,List.nil_append]
theorem O5 (route:Int)(place:List Int)(hr:I64 route)(hl:place.length<=900)(hok:∀ x∈place,I64 x):ap Tryz.prog aC 44 [.int .i64 route,.list (place.map (PV.int .i64))] (.str (jn route place)):=by
 refine ap.intro Q44.2 (by simp[Q44]) ?_
 have hrl:=ek route
 simp(disch:=try exact dI) only[Q44,push_cast,seval]
 refine ab.pure (mr route hr) rfl ?_
 refine zgZ ?_
 refine au ([]) (fun i:Nat=>[(5,.pv (.str (jn route (place.take i)))),(6,.pv (.int .i64 (i:Int)))]) (fun _=>[]) (fun i=>i<=place.length) (fun i=>place.length - i) (0) ?_;intro e0 σ0 n0 h0;simp(disch:=try exact dI) only[push_cast,seval] at h0;obtain⟨rfl,rfl,rfl⟩:=h0;refine⟨?_,?_,?_⟩
 ·refine zgZ ?_
  rfl
 ·omega
 intro i hi
 by_cases hlt:i<place.length
 ·have hltI:(i:Int)<place.length:=by omega
  obtain⟨x,hx⟩:∃ x,place[i]? = some x:=⟨_,WT hlt⟩
  have hxl:=ek x
  have hal:=Fh route (place.take i) (by simp;omega)
  have hts:=aE hx
  simp(disch:=try exact dI) only[hx,push_cast,seval]
  refine ab.pure (mr x (hok x (WV hx))) rfl ?_
  refine zgZ ?_
  exact⟨i+1,aJ (by simp(disch:=try exact dI) only[hts,Aa,push_cast,seval]),by omega,by omega⟩
 ·have hltI:¬ (i:Int)<place.length:=by omega
  have he:place.take i=place:=WY (by omega)
  simp(disch:=try exact dI) only[he,push_cast,seval]
def vsn (name:List UInt8)(version:Int)(x:Sch):Bool:=decide (x.name=name)&&decide (x.version=version)
theorem UI (x:Sch)(name:List UInt8)(version:Int):ap Tryz.prog aC 104 [x.pv,.eptr [.str name] 0 0,.eptr [.int .i64 version] 0 0] (.bool (vsn name version x)):=by
 obtain⟨nm,ve,ty⟩:=x
 obtain⟨w1,w2,w3,w4,w5,w6,w7⟩:=ty
 refine ap.intro Ta.2 (by simp[Ta]) ?_
 by_cases h:nm=name
 ·by_cases h2:ve=version
  ·simp(disch:=try exact dI) only[Ta,WD,WO,h,h2,eq_self,push_cast,seval]
   simp[vsn,Sch.name,Sch.version,h,h2]
  ·simp(disch:=try exact dI) only[Ta,WD,WO,h,h2,eq_self,push_cast,seval]
   simp[vsn,Sch.name,Sch.version,h,h2]
 ·simp(disch:=try exact dI) only[Ta,WD,WO,h,push_cast,seval]
  simp[vsn,Sch.name,Sch.version,h]
theorem GR (p:Prg)(name:List UInt8)(version:Int)(hp:p.ok):ap Tryz.prog aC 54 [p.pv,.str name,.int .i64 version] (.tup [.int .i64 (max (bL (p.schemas.findIdx? (vsn name version))) 0),.bool (nk (p.schemas.findIdx? (vsn name version)))]):=by
 obtain⟨v,ss,es,ws,rs⟩:=p
 rw[Wu] at hp
 refine ap.intro Q54.2 (by simp[Q54]) ?_
 simp(disch:=try exact dI) only[Q54,Wv,push_cast,seval]
 refine ab.pure (Uq _ 104 [.eptr [.str name] 0 0,.eptr [.int .i64 version] 0 0] _ (fun x _=>UI x name version) (by have:=hp.2.1;unfold maxLen;omega)) rfl ?_
 refine zgZ ?_
 exact⟨rfl,rfl⟩
theorem qV (p:Prg)(name:List UInt8)(version:Int)(hp:p.ok):ap Tryz.prog aC 41 [p.pv,.str name,.int .i64 version] (.int .i64 (bL (p.schemas.findIdx? (vsn name version)))):=by
 obtain⟨v,ss,es,ws,rs⟩:=p
 rw[Wu] at hp
 have hm:ss.length<=9223372036854775807:=by have:=hp.2.1;unfold maxLen at this;omega
 show ap Tryz.prog aC 41 [_,_,_] (.int .i64 (bL (ss.findIdx? (vsn name version))))
 refine ap.intro Q41.2 (by simp[Q41]) ?_
 simp(disch:=try exact dI) only[Q41,Wv,push_cast,seval]
 refine au ([]) (fun i:Nat=>[(7,.pv (.int .i64 (i:Int)))]) (fun _=>[]) (fun i=>i<=ss.length/\∀ j x,j<i->ss[j]? = some x->vsn name version x=false) (fun i=>ss.length - i) (0) ?_;intro e0 σ0 n0 h0;simp(disch:=try exact dI) only[push_cast,seval] at h0;obtain⟨rfl,rfl,rfl⟩:=h0;refine⟨?_,?_,?_⟩
 ·exact qsZ
 ·exact⟨Nat.zero_le _,by omega⟩
 rintro i ⟨hi,hpre⟩
 by_cases hlt:i<ss.length
 ·have hltI:(i:Int)<ss.length:=by omega
  obtain⟨x,hx⟩:∃ x,ss[i]? = some x:=⟨ss[i],WT hlt⟩
  have hstep:vsn name version x=false->∀ j y,j<i+1->ss[j]? = some y->vsn name version y=false:=by
   intro hq j y hj hjy
   rcases Nat.lt_or_ge j i with h | h
   ·exact hpre j y h hjy
   ·have:j=i:=by omega
    subst this
    rw[hx] at hjy;cases hjy;exact hq
  obtain⟨nm,ve,ty⟩:=x
  obtain⟨w1,w2,w3,w4,w5,w6,w7⟩:=ty
  by_cases h:nm=name
  ·by_cases h2:ve=version
   ·have hq:vsn name version (.mk nm ve (.mk w1 w2 w3 w4 w5 w6 w7))=true:=by simp[vsn,Sch.name,Sch.version,h,h2]
    simp(disch:=try exact dI) only[hx,WD,WO,h,h2,eq_self,push_cast,seval]
    rw[dD hx hq hpre];rfl
   ·have hq:vsn name version (.mk nm ve (.mk w1 w2 w3 w4 w5 w6 w7))=false:=by simp[vsn,Sch.name,Sch.version,h,h2]
    simp(disch:=try exact dI) only[hx,WD,WO,h,h2,eq_self,push_cast,seval]
    exact⟨i+1,aJ qsZ,⟨by omega,hstep hq⟩,by omega⟩
  ·have hq:vsn name version (.mk nm ve (.mk w1 w2 w3 w4 w5 w6 w7))=false:=by simp[vsn,Sch.name,Sch.version,h]
   simp(disch:=try exact dI) only[hx,WD,WO,h,push_cast,seval]
   exact⟨i+1,aJ qsZ,⟨by omega,hstep hq⟩,by omega⟩
 ·have hltI:¬ (i:Int)<ss.length:=by omega
  refine zgZ ?_
  rw[dE (fun j x hj hjx=>hpre j x (by omega) hjx)];rfl
def later (l:List Sch)(s:Sch):Option Nat->Bool
 | none=>true
 | some b=>match l[b]? with
   | some t=>decide (t.version<s.version)
   | none=>false
def ec (l:List Sch)(name:List UInt8):Nat->Option Nat
 | 0=>none
 | i+1=>match l[i]? with
   | some s=>if s.name=name/\later l s (ec l name i)=true then some i else ec l name i
   | none=>ec l name i
theorem sM (l:List Sch)(name:List UInt8):∀ i b,ec l name i=some b->b<i/\b<l.length
 | 0,b,h=>by cases h
 | i+1,b,h=>by
   rw[ec] at h
   split at h
   ·rename_i s hs
    split at h
    ·cases h;exact⟨by omega,(List.getElem?_eq_some_iff.1 hs).1⟩
    ·have:=sM l name i b h;omega
   ·have:=sM l name i b h;omega
theorem pi (l:List Sch)(name:List UInt8){i:Nat}{s:Sch}(hs:l[i]? = some s) :
  (s.name≠name/\ec l name (i+1)=ec l name i)\/(s.name=name/\ec l name i=none/\ec l name (i+1)=some i) \/
  (∃ b t,s.name=name/\ec l name i=some b/\l[b]? = some t/\b<l.length/\t.version<s.version/\ec l name (i+1)=some i) \/
  (∃ b t,s.name=name/\ec l name i=some b/\l[b]? = some t/\b<l.length/\¬ t.version<s.version/\ec l name (i+1)=some b):=by
 have e:ec l name (i+1)=if s.name=name/\later l s (ec l name i)=true then some i else ec l name i:=by rw[ec,hs]
 by_cases h:s.name=name
 ·cases hl:ec l name i with
  | none=>exact .inr (.inl ⟨h,rfl,by rw[e,hl,if_pos ⟨h,rfl⟩]⟩)
  | some b=>
    obtain⟨_,hb⟩:=sM l name i b hl
    have ht:=WT hb
    by_cases hv:l[b].version<s.version
    ·exact .inr (.inr (.inl ⟨b,_,h,rfl,ht,hb,hv,by rw[e,hl,if_pos ⟨h,by simp[later,ht,hv]⟩]⟩))
    ·exact .inr (.inr (.inr ⟨b,_,h,rfl,ht,hb,hv,by rw[e,hl,if_neg (by simp[later,ht,hv])]⟩))
 ·exact .inl ⟨h,by rw[e,if_neg (fun h'=>h h'.1)]⟩
def Dh (o:Option Nat):Int:=(o.getD 0:Nat)
theorem ID (p:Prg)(name:List UInt8)(hp:p.ok):ap Tryz.prog aC 55 [p.pv,.str name] (.tup [.int .i64 (Dh (ec p.schemas name p.schemas.length)),.bool (ec p.schemas name p.schemas.length).isSome]):=by
 obtain⟨v,ss,es,ws,rs⟩:=p
 rw[Wu] at hp
 have hm:ss.length<=9223372036854775807:=by have:=hp.2.1;unfold maxLen at this;omega
 show ap Tryz.prog aC 55 [_,_] (.tup [.int .i64 (Dh (ec ss name ss.length)),.bool (ec ss name ss.length).isSome])
 refine ap.intro Q55.2 (by simp[Q55]) ?_
 simp(disch:=try exact dI) only[Q55,Wv,push_cast,seval]
 refine au ([]) (fun i:Nat=>[(6,.pv (.int .i64 (Dh (ec ss name i)))),(7,.pv (.bool (ec ss name i).isSome)),(13,.pv (.int .i64 (i:Int)))]) (fun _=>[]) (fun i=>i<=ss.length) (fun i=>ss.length - i) (0) ?_;intro e0 σ0 n0 h0;simp(disch:=try exact dI) only[push_cast,seval] at h0;obtain⟨rfl,rfl,rfl⟩:=h0;refine⟨?_,?_,?_⟩
 ·refine zgZ ?_
  simp[ec,Dh]
 ·omega
 intro i hi
 by_cases hlt:i<ss.length
 ·have hltI:(i:Int)<ss.length:=by omega
  obtain⟨x,hx⟩:∃ x,ss[i]? = some x:=⟨ss[i],WT hlt⟩
  have hst:=pi ss name hx
  obtain⟨nm,ve,ty⟩:=x
  obtain⟨w1,w2,w3,w4,w5,w6,w7⟩:=ty
  simp only[Sch.name,Sch.version] at hst
  rcases hst with ⟨k1,k2⟩ | ⟨k1,k2,k3⟩ | ⟨b,t,k1,k2,k3,k4,k5,k6⟩ | ⟨b,t,k1,k2,k3,k4,k5,k6⟩
  ·simp(disch:=try exact dI) only[hx,WD,WO,k1,push_cast,seval]
   exact⟨i+1,aJ (by simp(disch:=try exact dI) only[k2,push_cast,seval]),by omega,by omega⟩
  ·simp(disch:=try exact dI) only[hx,WD,WO,k1,eq_self,k2,Option.isSome_none,push_cast,seval]
   exact⟨i+1,aJ (by simp(disch:=try exact dI) only[k3,Dh,XK,X8,push_cast,seval]),by omega,by omega⟩
  ·obtain⟨tn,tv,⟨z1,z2,z3,z4,z5,z6,z7⟩⟩:=t
   simp only[Sch.version] at k5
   simp(disch:=try exact dI) only[hx,WD,WO,k1,eq_self,k2,X8,Dh,XK,k3,push_cast,seval]
   exact⟨i+1,aJ (by simp(disch:=try exact dI) only[k6,Dh,XK,X8,push_cast,seval]),by omega,by omega⟩
  ·obtain⟨tn,tv,⟨z1,z2,z3,z4,z5,z6,z7⟩⟩:=t
   simp only[Sch.version] at k5
   simp(disch:=try exact dI) only[hx,WD,WO,k1,eq_self,k2,X8,Dh,XK,k3,push_cast,seval]
   exact⟨i+1,aJ (by simp(disch:=try exact dI) only[k6,Dh,XK,X8,push_cast,seval]),by omega,by omega⟩
 ·have hltI:¬ (i:Int)<ss.length:=by omega
  have he:i=ss.length:=by omega
  subst he
  exact qsZ
theorem na (p:Prg)(name:List UInt8)(hp:p.ok):ap Tryz.prog aC 14 [p.pv,.str name] (.int .i64 (bL (ec p.schemas name p.schemas.length))):=by
 obtain⟨v,ss,es,ws,rs⟩:=p
 rw[Wu] at hp
 have hm:ss.length<=9223372036854775807:=by have:=hp.2.1;unfold maxLen at this;omega
 show ap Tryz.prog aC 14 [_,_] (.int .i64 (bL (ec ss name ss.length)))
 refine ap.intro Q14.2 (by simp[Q14]) ?_
 simp(disch:=try exact dI) only[Q14,Wv,push_cast,seval]
 refine au ([]) (fun i:Nat=>[(5,.pv (.int .i64 (bL (ec ss name i)))),(6,.pv (.int .i64 (i:Int)))]) (fun _=>[]) (fun i=>i<=ss.length) (fun i=>ss.length - i) (0) ?_;intro e0 σ0 n0 h0;simp(disch:=try exact dI) only[push_cast,seval] at h0;obtain⟨rfl,rfl,rfl⟩:=h0;refine⟨?_,?_,?_⟩
 ·refine zgZ ?_
  simp[ec,bL]
 ·omega
 intro i hi
 by_cases hlt:i<ss.length
 ·have hltI:(i:Int)<ss.length:=by omega
  obtain⟨x,hx⟩:∃ x,ss[i]? = some x:=⟨ss[i],WT hlt⟩
  have hst:=pi ss name hx
  obtain⟨nm,ve,ty⟩:=x
  obtain⟨w1,w2,w3,w4,w5,w6,w7⟩:=ty
  simp only[Sch.name,Sch.version] at hst
  rcases hst with ⟨k1,k2⟩ | ⟨k1,k2,k3⟩ | ⟨b,t,k1,k2,k3,k4,k5,k6⟩ | ⟨b,t,k1,k2,k3,k4,k5,k6⟩
  ·simp(disch:=try exact dI) only[hx,WD,WO,k1,push_cast,seval]
   exact⟨i+1,aJ (by simp(disch:=try exact dI) only[k2,push_cast,seval]),by omega,by omega⟩
  ·have hn:(-1:Int)<0:=by omega
   simp(disch:=try exact dI) only[hx,WD,WO,k1,eq_self,k2,bL,hn,push_cast,seval]
   exact⟨i+1,aJ (by simp(disch:=try exact dI) only[k3,bL,push_cast,seval]),by omega,by omega⟩
  ·obtain⟨tn,tv,⟨z1,z2,z3,z4,z5,z6,z7⟩⟩:=t
   simp only[Sch.version] at k5
   simp(disch:=try exact dI) only[hx,WD,WO,k1,eq_self,k2,bL,k3,push_cast,seval]
   exact⟨i+1,aJ (by simp(disch:=try exact dI) only[k6,bL,push_cast,seval]),by omega,by omega⟩
  ·obtain⟨tn,tv,⟨z1,z2,z3,z4,z5,z6,z7⟩⟩:=t
   simp only[Sch.version] at k5
   simp(disch:=try exact dI) only[hx,WD,WO,k1,eq_self,k2,bL,k3,push_cast,seval]
   exact⟨i+1,aJ (by simp(disch:=try exact dI) only[k6,bL,push_cast,seval]),by omega,by omega⟩
 ·have hltI:¬ (i:Int)<ss.length:=by omega
  have he:i=ss.length:=by omega
  subst he
  exact qsZ
