/- A part. -/
import Derived.Test.YtngchmkoadaecaaGreatDoorClJW
set_option linter.unusedVariables false
set_option linter.unusedSimpArgs false
set_option maxHeartbeats 16000000
set_option maxRecDepth 100000
open List renaming getElem?_eq_getElem->Uq,mem_of_getElem?->Us,mem_of_mem_take->Vf,length_take->UJ,map_append->UH,map_cons->UQ,map_nil->Va,append_assoc->UB,cons_append->U2,nil_append->UV,take_of_length_le->Ux,take->Vw,length_cons->UC,length_map->U0,length_nil->UR
open Nat renaming le_trans->UX,mul_le_mul_right->UA
namespace Go.Proofs.YtngchmkoadaecaaGreatDoor
open Go Go.Ab
theorem JG (route:Int):∀ (n:Nat) (p:List Int) (l:List Stp),Bnd n l->p.length+2*n<=1000->cnt n<=100000000 ->
  ap Tryz.prog aB 43 [.int .i64 route,.list (p.map (PV.int .i64)),.list (l.map Stp.pv)] (.list ((aF route n p l).map Wkd.pv)):=by
 intro n
 induction n with
 | zero=>
   intro p l hB hp hc
   obtain rfl:l=[]:=hB
   refine ap.intro Q43.2 (by simp[Q43]) ?_
   simp(maxSteps:=9^7) (disch:=try exact dI) only[Q43,aF,push_cast,seval]
   refine aw ([(7,0,53,13)]) (fun m:Nat=>[]) (fun m=>[]) (fun m=>m=0) (fun m=>m) (0) ?_;intro e0 σ0 n0 h0;simp(maxSteps:=9^7) (disch:=try exact dI) only[push_cast,seval] at h0;obtain⟨rfl,rfl,rfl⟩:=h0;refine⟨?_,?_,?_⟩
   ·simp(maxSteps:=9^7) (disch:=try exact dI) only[push_cast,seval]
   ·rfl
   ·intro m hm
    simp(maxSteps:=9^7) (disch:=try exact dI) only[push_cast,seval]
 | succ n ih=>
   intro p l hB hp hc
   have hcw:=ba route (n+1) p l hB
   obtain⟨hB1,hB2⟩:=hB
   have hcn:cnt n<=100000000:=by simp only[cnt] at hc;omega
   refine ap.intro Q43.2 (by simp[Q43]) ?_
   rw[aF] at hcw ⊢
   generalize hF:(fun (s:Stp) (i:Nat)=>Wkd.mk route (p++[(i:Int)]) s::aJ (fun b j=>aF route n ((p++[(i:Int)])++[(j:Int)]) b.steps) s.branches)=F at hcw ⊢
   simp(maxSteps:=9^7) (disch:=try exact dI) only[Q43,push_cast,seval]
   refine aw ([(7,0,53,13)]) (fun m:Nat=>[(7,.olist 0 13 ((aJ F (l.take m)).map Wkd.pv)),(8,.pv (.int .i64 (m:Int)))]) (fun m=>[]) (fun m=>m<=l.length) (fun m=>l.length - m) (0) ?_;intro e0 σ0 n0 h0;simp(maxSteps:=9^7) (disch:=try exact dI) only[push_cast,seval] at h0;obtain⟨rfl,rfl,rfl⟩:=h0;refine⟨?_,?_,?_⟩
   ·simp(maxSteps:=9^7) (disch:=try exact dI) only[bv,push_cast,seval]
   ·omega
   ·intro m hm
    by_cases hlt:m<l.length
    ·have hltI:(m:Int)<l.length:=by omega
     obtain⟨x,hx⟩:∃ x,l[m]? = some x:=⟨_,Uq hlt⟩
     obtain⟨hb1,hb2⟩:=hB2 x (Us hx)
     have hwl:(aJ F (l.take m)).length<=cnt (n+1):=UX (gy F l m) hcw
     have hFx:=congrFun (congrFun hF x) m
     have hsn:=bc F hx
     have hcat0:([]:List PV)++p.map (PV.int .i64)++[PV.int .i64 (m:Int)]=(p++[(m:Int)]).map (PV.int .i64):=by simp
     obtain⟨x1,x2,x3,x4,x5,x6,x7,x8,x9,x10,k⟩:=x
     simp only[Stp.branches] at hb1 hb2 hFx
     generalize hF2:(fun (b:Bra) (j:Nat)=>aF route n ((p++[(m:Int)])++[(j:Int)]) b.steps)=F2 at hFx
     have hk3:∀ j,(aJ F2 (k.take j)).length<=4*cnt n:=fun j=>UX (bn F2 (cnt n) (k.take j) (fun b hb i=>by rw[<- hF2];exact ba route n _ _ (hb2 b (Vf hb)))) (UA _ (by rw[UJ];omega))
     simp(maxSteps:=9^7) (disch:=try exact dI) only[hx,Ud,push_cast,seval]
     refine aw ([]) (fun j:Nat=>[(7,.olist 0 13 ((aJ F (l.take m)++Wkd.mk route (p++[(m:Int)]) (.mk x1 x2 x3 x4 x5 x6 x7 x8 x9 x10 k)::aJ F2 (k.take j)).map Wkd.pv)),(10,.pv (.int .i64 (j:Int)))]) (fun j=>[]) (fun j=>j<=k.length) (fun j=>k.length - j) (0) ?_;intro e0 σ0 n0 h0;simp(maxSteps:=9^7) (disch:=try exact dI) only[push_cast,seval] at h0;obtain⟨rfl,rfl,rfl⟩:=h0;refine⟨?_,?_,?_⟩
     ·simp(maxSteps:=9^7) (disch:=try exact dI) only[bv,Up,Ud,UH,push_cast,seval]
     ·omega
     ·intro j hj
      by_cases hlj:j<k.length
      ·have hljI:(j:Int)<k.length:=by omega
       obtain⟨b,hb⟩:∃ b,k[j]? = some b:=⟨_,Uq hlj⟩
       have hbB:=hb2 b (Us hb)
       have hsn2:=bc F2 hb
       have hF2b:=congrFun (congrFun hF2 b) j
       have hl4:=ba route n ((p++[(m:Int)])++[(j:Int)]) b.steps hbB
       obtain⟨b1,b2⟩:=b
       simp only[Bra.steps] at hbB hF2b hl4
       have hih:=ih ((p++[(m:Int)])++[(j:Int)]) b2 hbB (by simp;omega) hcn
       have hk3j:=hk3 j
       simp only[UH,UQ,Va,UB,U2,UV] at hih hl4
       simp(maxSteps:=9^7) (disch:=try exact dI) only[hx,hb,TQ,Ud,push_cast,seval]
       refine au hih rfl ?_
       simp(maxSteps:=9^7) (disch:=try exact dI) only[pL,push_cast,seval]
       exact⟨j+1,aN (by simp(maxSteps:=9^7) (disch:=try exact dI) only[hsn2,<- hF2b,UB,UH,push_cast,seval]),by omega,by omega⟩
      ·have hljI:¬ (j:Int)<k.length:=by omega
       have hle:k.take j=k:=Ux (by omega)
       simp(maxSteps:=9^7) (disch:=try exact dI) only[hx,hle,Ud,push_cast,seval]
       exact⟨m+1,aN (by simp(maxSteps:=9^7) (disch:=try exact dI) only[hsn,<- hFx,UB,push_cast,seval]),by omega,by omega⟩
    ·have hltI:¬ (m:Int)<l.length:=by omega
     have hle:l.take m=l:=Ux (by omega)
     simp(maxSteps:=9^7) (disch:=try exact dI) only[hle,push_cast,seval]
theorem Im (n:Nat)(hn:n<=400)(hc:cnt n<=100000000)(p:Prg)(hp:okW n p):ap Tryz.prog aB 11 [p.pv] (.list ((cJ n p).map Wkd.pv)):=by
 have h69:=fun (i:Nat) r hr=>JG i n [] r.steps (hp.2 r (Us (i:=i) hr)).1 (by simp;omega) hc
 have hlen:∀ m,(aJ (fun (r:Rou) i=>aF i n [] r.steps) (p.routes.take m)).length<=6*cnt n:=fun m=>by
  refine UX (bn _ (cnt n) _ fun r hr i=>ba _ n _ _ (hp.2 r (Vf hr)).1) (UA _ ?_)
  have:=hp.1
  rw[UJ];omega
 have hl1:∀ i (r:Rou),r∈p.routes->(aF i n [] r.steps).length<=cnt n:=fun i r hr=>ba _ n _ _ (hp.2 r hr).1
 refine ap.intro Q11.2 (by simp[Q11]) ?_
 obtain⟨v,s,e,w,rs⟩:=p
 simp only[Prg.routes] at h69 hlen hl1
 have hr6:rs.length<=6:=hp.1
 rw[cJ]
 simp only[Prg.routes]
 simp(maxSteps:=9^7) (disch:=try exact dI) only[Q11,T4,push_cast,seval]
 refine aw ([(3,0,53,13)]) (fun m:Nat=>[(3,.olist 0 13 ((aJ (fun (r:Rou) i=>aF i n [] r.steps) (rs.take m)).map Wkd.pv)),(4,.pv (.int .i64 (m:Int)))]) (fun m=>[]) (fun m=>m<=rs.length) (fun m=>rs.length - m) (0) ?_;intro e0 σ0 n0 h0;simp(maxSteps:=9^7) (disch:=try exact dI) only[push_cast,seval] at h0;obtain⟨rfl,rfl,rfl⟩:=h0;refine⟨?_,?_,?_⟩
 ·simp(maxSteps:=9^7) (disch:=try exact dI) only[bv,push_cast,seval]
 ·omega
 ·intro m hm
  by_cases hlt:m<rs.length
  ·have hltI:(m:Int)<rs.length:=by omega
   obtain⟨r,hr⟩:∃ r,rs[m]? = some r:=⟨_,Uq hlt⟩
   have hcall:=h69 m r hr
   have hsn:=bc (fun (r:Rou) i=>aF i n [] r.steps) hr
   have hk1:=hlen m
   have hk2:=hl1 m r (Us hr)
   obtain⟨r1,r2,r3⟩:=r
   have hst:(Rou.mk r1 r2 r3).steps=r3:=_root_.id rfl
   rw[hst] at hcall hk2
   simp only[hst] at hsn
   simp(maxSteps:=9^7) (disch:=try exact dI) only[hr,T6,push_cast,seval]
   refine ab.pureN hcall rfl qsZ ?_
   simp(maxSteps:=9^7) (disch:=try exact dI) only[pL,push_cast,seval]
   exact⟨m+1,aN (by simp(maxSteps:=9^7) (disch:=try exact dI) only[hsn,UH,push_cast,seval]),by omega,by omega⟩
  ·have hltI:¬ (m:Int)<rs.length:=by omega
   have hle:rs.take m=rs:=Ux (by omega)
   simp(maxSteps:=9^7) (disch:=try exact dI) only[hle,push_cast,seval]
theorem JQ (n:Nat)(hn:n<=400)(hc:cnt n<=100000000)(p:Prg)(hp:okW n p):ap Tryz.prog aB 7 [p.pv] (.bool (decide ((cJ n p).length<=300))):=by
 refine ap.intro Q7.2 (by simp[Q7]) ?_
 have h:=Im n hn hc p hp
 by_cases hle:(cJ n p).length<=300
 ·have hleI:((cJ n p).length:Int)<=300:=by omega
  simp(maxSteps:=9^7) (disch:=try exact dI) only[Q7,Prg.cells_len,Prg.isAgg,Prg.ones,hle,push_cast,seval]
  refine ab.pure h rfl ?_
  simp(maxSteps:=9^7) (disch:=try exact dI) only[push_cast,seval]
 ·have hleI:¬ ((cJ n p).length:Int)<=300:=by omega
  simp(maxSteps:=9^7) (disch:=try exact dI) only[Q7,Prg.cells_len,Prg.isAgg,Prg.ones,hle,push_cast,seval]
  refine ab.pure h rfl ?_
  simp(maxSteps:=9^7) (disch:=try exact dI) only[push_cast,seval]
theorem C0 (d:Nat)(h:d<10):(Vw (d+1) [48,49,50,51,52,53,54,55,56,57]).drop d=[UInt8.ofNat (48+d)]:=by
 have:∀ d:Fin 10,(Vw (d.val+1) [48,49,50,51,52,53,54,55,56,57]).drop d.val=[UInt8.ofNat (48+d.val)]:=by decide
 exact this ⟨d,h⟩
theorem lJ (d:Nat)(h:d<10):List.drop d (48::Vw d [49,50,51,52,53,54,55,56,57])=[UInt8.ofNat (48+d)]:=C0 d h
theorem om (k:Nat)(h:(k:Int)<=9223372036854775807):dQ k=Lib.decDigits k:=by
 rw[iZ (by omega) h,Lib.itoa,if_neg (by omega),Int.toNat_natCast]
theorem ol (k:Nat)(h0:0<k)(h:(k:Int)<=9223372036854775808):dQ (-(k:Int))=45::Lib.decDigits k:=by
 rw[iZ (by omega) (by omega),Lib.itoa,if_pos (by omega),Int.natAbs_neg,Int.natAbs_natCast]
theorem oN {k:Nat}(h:k<10):Lib.decDigits k=[UInt8.ofNat (48+k)]:=by rw[Lib.decDigits,dif_pos h]
theorem C1 {k:Nat}(h:¬ k<10):Lib.decDigits k=Lib.decDigits (k / 10)++[UInt8.ofNat (48+k % 10)]:=by rw[Lib.decDigits,dif_neg h]
theorem rE (k:Nat)(h:(k:Int)<=9223372036854775807):ap Tryz.prog aB 95 [.int .i64 k] (.str (Lib.decDigits k)):=by
 induction k using Nat.strongRecOn with
 | _ k ih=>
   have hq:(k:Int).tdiv 10=(k:Int) / 10:=by rw[Int.tdiv_eq_ediv_of_nonneg (by omega)]
   have hr:(k:Int).tmod 10=(k:Int) % 10:=by rw[Int.tmod_eq_emod_of_nonneg (by omega)]
   have hd:=lJ (k % 10) (by omega)
   have h10:k % 10<10:=by omega
   have hlen:=dP ((k / 10:Nat):Int)
   rw[om _ (by omega)] at hlen
   refine ap.intro Q95.2 (by simp[Q95]) ?_
   by_cases hk:k<10
   ·have hk':¬ (10:Int)<=k:=by omega
    have hk0:¬ (k:Int)<0:=by omega
    have hm:k % 10=k:=by omega
    rw[hm] at hd
    have hr:(k:Int).tmod 10=k:=by omega
    have ht:((k:Int)+1).toNat=k+1:=by omega
    simp(disch:=try exact dI) only[Q95,hq,hr,hd,ht,push_cast,seval]
    exact (oN hk).symm
   ·have hk':(10:Int)<=k:=by omega
    have hk0:¬ (k:Int)<0:=by omega
    have ht:((k:Int) % 10+1).toNat=k % 10+1:=by omega
    have ht0:((k:Int) % 10).toNat=k % 10:=by omega
    simp(disch:=try exact dI) only[Q95,hq,hr,hd,ht,ht0,push_cast,seval]
    refine ab.pure (ih (k / 10) (by omega) (by omega)) rfl ?_
    refine zgZ ?_
    exact (C1 hk).symm
theorem lK (n:Int)(h:I64 n):ap Tryz.prog aB 95 [.int .i64 n] (.str (dQ n)):=by
 obtain⟨h1,h2⟩:=h
 rcases Int.lt_or_le n 0 with hn | hn
 ·obtain⟨k,rfl⟩:∃ k:Nat,n = -(k:Int):=⟨n.natAbs,by omega⟩
  have key:∀ k:Nat,0<k->(k:Int)<=9223372036854775808->ap Tryz.prog aB 95 [.int .i64 (-(k:Int))] (.str (45::Lib.decDigits k)):=by
   intro k
   induction k using Nat.strongRecOn with
   | _ k ih=>
     intro h0 hk
     have hq:(-(k:Int)).tdiv 10 = -((k:Int) / 10):=by rw[Int.neg_tdiv,Int.tdiv_eq_ediv_of_nonneg (by omega)]
     have hr:(-(k:Int)).tmod 10 = -((k:Int) % 10):=by rw[Int.neg_tmod,Int.tmod_eq_emod_of_nonneg (by omega)]
     have hd:=lJ (k % 10) (by omega)
     have h10:k % 10<10:=by omega
     have hneg:-(k:Int)<0:=by omega
     have hlen:=dP (-((k / 10:Nat):Int))
     by_cases hs:k<10
     ·have hq0:-((k:Int) / 10)=0:=by omega
      have hw:(0:Int) - -(k:Int)=k:=by omega
      have ht:((k:Int)+1).toNat=k+1:=by omega
      have hm:k % 10=k:=by omega
      rw[hm] at hd
      refine ap.intro Q95.2 (by simp[Q95]) ?_
      simp(disch:=try exact dI) only[Q95,hq,hr,hq0,hw,ht,hd,push_cast,seval]
      rw[oN hs]
     ·have hq0:¬ -((k:Int) / 10)=0:=by omega
      have hw:(0:Int) - -((k:Int) % 10)=(k:Int) % 10:=by omega
      have ht0:((k:Int) % 10).toNat=k % 10:=by omega
      have ht:((k:Int) % 10+1).toNat=k % 10+1:=by omega
      rw[ol _ (by omega) (by omega),UC] at hlen
      refine ap.intro Q95.2 (by simp[Q95]) ?_
      simp(disch:=try exact dI) only[Q95,hq,hr,hq0,hw,ht,ht0,hd,push_cast,seval]
      refine au (ih (k / 10) (by omega) (by omega) (by omega)) rfl ?_
      simp(disch:=try exact dI) only[hq,hr,hq0,hw,ht,ht0,hd,push_cast,seval]
      rw[C1 hs]
  rw[ol k (by omega) (by omega)]
  exact key k (by omega) (by omega)
 ·obtain⟨k,rfl⟩:∃ k:Nat,n=(k:Int):=⟨n.toNat,by omega⟩
  rw[om k h2]
  exact rE k h2
theorem gx (sep:List UInt8):∀ l:List (List UInt8),(∀ x∈l,x.length<=21)->(dj sep l).length<=l.length*(21+sep.length)
 | [],_=>by simp[dj]
 | [x],h=>by have:=h x (by simp);simp[dj];omega
 | x::y::r,h=>by
   have h1:=gx sep (y::r) fun z hz=>h z (by simp[hz])
   have:=h x (by simp)
   simp only[dj,List.length_append,UC] at h1 ⊢
   rw[Nat.succ_mul];omega
theorem jL (l:List Int):∀ x∈l.map dQ,x.length<=21:=by
 intro x hx
 obtain⟨n,_,rfl⟩:=List.mem_map.1 hx
 exact dP n
theorem BX (l:List Int)(sep:List UInt8)(hl:l.length<=1000)(hs:sep.length<=10)(hok:∀ x∈l,I64 x):ap Tryz.prog aB 48 [.list (l.map (PV.int .i64)),.str sep] (.str (dj sep (l.map dQ))):=by
 refine ap.intro Q48.2 (by simp[Q48]) ?_
 have hjl:=gx sep (l.map dQ) (jL l)
 simp(disch:=try exact dI) only[Q48,push_cast,seval]
 refine aw ([(5,0,9,1)]) (fun i:Nat=>[(5,.olist 0 1 (((l.take i).map dQ).map PV.str)),(10,.pv (.int .i64 (i:Int)))]) (fun _=>[]) (fun i=>i<=l.length) (fun i=>l.length - i) (0) ?_;intro e0 σ0 n0 h0;simp(disch:=try exact dI) only[push_cast,seval] at h0;obtain⟨rfl,rfl,rfl⟩:=h0;refine⟨?_,?_,?_⟩
 ·exact qsZ
 ·omega
 intro i hi
 by_cases hlt:i<l.length
 ·have hltI:(i:Int)<l.length:=by omega
  obtain⟨x,hx⟩:∃ x,l[i]? = some x:=⟨_,Uq hlt⟩
  obtain⟨h1,h2⟩:=hok x (Us hx)
  have hts:=aC hx
  simp(disch:=try exact dI) only[hx,push_cast,seval]
  refine ab.pure (B3 x h1 h2) rfl ?_
  refine zgZ ?_
  exact⟨i+1,aN (by simp(disch:=try exact dI) only[hts,UH,push_cast,seval]),by omega,by omega⟩
 ·have hltI:¬ (i:Int)<l.length:=by omega
  have he:l.take i=l:=Ux (by omega)
  simp(disch:=try exact dI) only[he,push_cast,seval]
  refine ab.pure (BZ (l.map dQ) sep (by simp;omega) (UX hjl (by
   simp only[U0]
   have:l.length*(21+sep.length)<=1000*31:=Nat.mul_le_mul hl (by omega)
   omega))) qsZ ?_
  exact qsZ
def iO (route:Int)(place:List Int):List UInt8:=115::dj [95] ((route::place).map dQ)
theorem rO (route:Int)(place:List Int)(hr:I64 route)(hl:place.length<=900)(hok:∀ x∈place,I64 x):ap Tryz.prog aB 24 [.int .i64 route,.list (place.map (PV.int .i64))] (.str (iO route place)):=by
 refine ap.intro Q24.2 (by simp[Q24]) ?_
 have hj:=BX (route::place) [95] (by simp;omega) (by simp) (by simp;exact⟨hr,hok⟩)
 have hjl:=gx [95] ((route::place).map dQ) (jL _)
 simp only[U0,UC,UR] at hjl
 have hb:(dj [95] ((route::place).map dQ)).length<=30000:=by omega
 rw[UQ,UQ] at hj
 rw[UQ] at hb
 simp(disch:=try exact dI) only[Q24,push_cast,seval]
 refine ab.pure hj qsZ ?_
 refine zgZ ?_
 rfl
theorem lu (sep:List UInt8)(y:List UInt8):∀ (x:List UInt8) (l:List (List UInt8)),dj sep (x::(l++[y]))=dj sep (x::l)++(sep++y)
 | x,[]=>by simp[dj]
 | x,z::r=>by
   have:=lu sep y z r
   simp only[U2,dj,this,UB]
theorem DH (route:Int)(place:List Int)(hl:place.length<=900):(iO route place).length<=30000:=by
 have hjl:=gx [95] ((route::place).map dQ) (jL _)
 simp only[U0,UC,UR] at hjl
 simp only[iO,UC];omega
theorem xB (route:Int)(l:List Int)(x:Int):iO route (l++[x])=iO route l++(95::dQ x):=by
 simp only[iO,UQ,UH,Va,lu,U2,UV]
theorem ML (route:Int)(place:List Int)(hr:I64 route)(hl:place.length<=900)(hok:∀ x∈place,I64 x):ap Tryz.prog aB 44 [.int .i64 route,.list (place.map (PV.int .i64))] (.str (iO route place)):=by
 refine ap.intro Q44.2 (by simp[Q44]) ?_
 have hrl:=dP route
 simp(disch:=try exact dI) only[Q44,push_cast,seval]
 refine ab.pure (lK route hr) rfl ?_
 refine zgZ ?_
 refine aw ([]) (fun i:Nat=>[(5,.pv (.str (iO route (place.take i)))),(6,.pv (.int .i64 (i:Int)))]) (fun _=>[]) (fun i=>i<=place.length) (fun i=>place.length - i) (0) ?_;intro e0 σ0 n0 h0;simp(disch:=try exact dI) only[push_cast,seval] at h0;obtain⟨rfl,rfl,rfl⟩:=h0;refine⟨?_,?_,?_⟩
 ·refine zgZ ?_
  rfl
 ·omega
 intro i hi
 by_cases hlt:i<place.length
 ·have hltI:(i:Int)<place.length:=by omega
  obtain⟨x,hx⟩:∃ x,place[i]? = some x:=⟨_,Uq hlt⟩
  have hxl:=dP x
  have hal:=DH route (place.take i) (by simp;omega)
  have hts:=aC hx
  simp(disch:=try exact dI) only[hx,push_cast,seval]
  refine ab.pure (lK x (hok x (Us hx))) rfl ?_
  refine zgZ ?_
  exact⟨i+1,aN (by simp(disch:=try exact dI) only[hts,xB,push_cast,seval]),by omega,by omega⟩
 ·have hltI:¬ (i:Int)<place.length:=by omega
  have he:place.take i=place:=Ux (by omega)
  simp(disch:=try exact dI) only[he,push_cast,seval]
