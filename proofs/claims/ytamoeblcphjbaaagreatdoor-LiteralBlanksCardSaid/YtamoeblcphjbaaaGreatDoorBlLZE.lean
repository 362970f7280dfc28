/- A part. -/
import Derived.Test.YtamoeblcphjbaaaGreatDoorBlMQ4
import Derived.Stop.LaidErr
import Derived.WalkKit
import Derived.Lib.LaidTab
import Derived.SevenTiedAt
import Derived.Test.YtamoeblcphjbaaaGreatDoorCards
import Derived.Test.YtamoeblcphjbaaaGreatDoorTie
set_option linter.unusedVariables false
set_option linter.unusedSimpArgs false
set_option maxHeartbeats 16000000
set_option maxRecDepth 100000
open Nat renaming zero_le->U8
open List renaming getElem?_eq_getElem->Uo,mem_of_getElem?->Uw,getElem?_map->UB,getElem?_eq_some_iff->Up
open Option renaming map_some->UD,map_eq_some_iff->Uq
namespace Go.Proofs.YtamoeblcphjbaaaGreatDoor
open Go Go.Ab
attribute [local irreducible] vc
theorem Sq (w:List (List UInt8))(hw:w.length<=9000000000000):au Tryz.prog aH 57 [.list (w.map PV.str),.list (w.map PV.str)] (.bool true):=by
 refine au.intro Q57.2 (by simp[Q57]) ?_
 simp(disch:=try exact dI) only[Q57,push_cast,seval]
 refine aK ([]) (fun i:Nat=>[(13,.pv (.int .i64 (i:Int)))]) (fun _=>[]) (fun i=>i<=w.length) (fun i=>w.length - i) (0) ?_;intro e0 σ0 n0 h0;simp(disch:=try exact dI) only[push_cast,seval] at h0;obtain⟨rfl,rfl,rfl⟩:=h0;refine⟨?_,?_,?_⟩
 ·exact qsZ
 ·exact U8 _
 intro i hi
 by_cases hlt:i<w.length
 ·have hltI:(i:Int)<(w.length:Int):=by omega
  obtain⟨x,hx⟩:∃ x,w[i]? = some x:=⟨_,Uo hlt⟩
  simp(disch:=try exact dI) only[hx,eq_self,push_cast,seval]
  exact⟨i+1,bu qsZ,by omega,by omega⟩
 ·have hltI:¬ (i:Int)<(w.length:Int):=by omega
  exact qsZ
theorem Sp (l:List Typ)(g:Nat)(hg:∀ x∈l,au Tryz.prog aH g [x.pv,x.pv] (.bool true))(hl:l.length<=9000000000000):au Tryz.prog aH 58 [.list (l.map Typ.pv),.list (l.map Typ.pv),.clo g [] []] (.bool true):=by
 refine au.intro Q58.2 (by simp[Q58]) ?_
 simp(disch:=try exact dI) only[Q58,push_cast,seval]
 refine aK ([]) (fun m:Nat=>[(17,.pv (.int .i64 (m:Int)))]) (fun _=>[]) (fun m=>m<=l.length) (fun m=>l.length - m) (0) ?_;intro e0 σ0 n0 h0;simp(disch:=try exact dI) only[push_cast,seval] at h0;obtain⟨rfl,rfl,rfl⟩:=h0;refine⟨?_,?_,?_⟩
 ·exact qsZ
 ·exact U8 _
 intro m hm
 by_cases hlt:m<l.length
 ·have hltI:(m:Int)<(l.length:Int):=by omega
  obtain⟨x,hx⟩:∃ x,l[m]? = some x:=⟨_,Uo hlt⟩
  have hcall:=hg x (Uw hx)
  obtain⟨w1,w2,w3,w4,w5,w6,w7⟩:=x
  simp only[Ul] at hcall
  simp(disch:=try exact dI) only[hx,UD,Ul,aw,push_cast,seval]
  refine ae.pure hcall rfl ?_
  refine zgZ ?_
  exact⟨m+1,bu qsZ,by omega,by omega⟩
 ·have hltI:¬ (m:Int)<(l.length:Int):=by omega
  exact qsZ
theorem So (l:List Val)(g:Nat)(hg:∀ x∈l,au Tryz.prog aH g [x.pv,x.pv] (.bool true))(hl:l.length<=9000000000000):au Tryz.prog aH 61 [.list (l.map Val.pv),.list (l.map Val.pv),.clo g [] []] (.bool true):=by
 refine au.intro Q61.2 (by simp[Q61]) ?_
 simp(disch:=try exact dI) only[Q61,push_cast,seval]
 refine aK ([]) (fun m:Nat=>[(17,.pv (.int .i64 (m:Int)))]) (fun _=>[]) (fun m=>m<=l.length) (fun m=>l.length - m) (0) ?_;intro e0 σ0 n0 h0;simp(disch:=try exact dI) only[push_cast,seval] at h0;obtain⟨rfl,rfl,rfl⟩:=h0;refine⟨?_,?_,?_⟩
 ·exact qsZ
 ·exact U8 _
 intro m hm
 by_cases hlt:m<l.length
 ·have hltI:(m:Int)<(l.length:Int):=by omega
  obtain⟨x,hx⟩:∃ x,l[m]? = some x:=⟨_,Uo hlt⟩
  have hcall:=hg x (Uw hx)
  obtain⟨w1,w2,w3,w4,w5,w6⟩:=x
  simp only[Un] at hcall
  simp(disch:=try exact dI) only[hx,UD,Un,aw,push_cast,seval]
  refine ae.pure hcall rfl ?_
  refine zgZ ?_
  exact⟨m+1,bu qsZ,by omega,by omega⟩
 ·have hltI:¬ (m:Int)<(l.length:Int):=by omega
  exact qsZ
theorem Sr (l:List TFd)(g:Nat)(hg:∀ x∈l,au Tryz.prog aH g [x.pv,x.pv] (.bool true))(hl:l.length<=9000000000000):au Tryz.prog aH 59 [.list (l.map TFd.pv),.list (l.map TFd.pv),.clo g [] []] (.bool true):=by
 refine au.intro Q59.2 (by simp[Q59]) ?_
 simp(disch:=try exact dI) only[Q59,push_cast,seval]
 refine aK ([]) (fun m:Nat=>[(17,.pv (.int .i64 (m:Int)))]) (fun _=>[]) (fun m=>m<=l.length) (fun m=>l.length - m) (0) ?_;intro e0 σ0 n0 h0;simp(disch:=try exact dI) only[push_cast,seval] at h0;obtain⟨rfl,rfl,rfl⟩:=h0;refine⟨?_,?_,?_⟩
 ·exact qsZ
 ·exact U8 _
 intro m hm
 by_cases hlt:m<l.length
 ·have hltI:(m:Int)<(l.length:Int):=by omega
  obtain⟨x,hx⟩:∃ x,l[m]? = some x:=⟨_,Uo hlt⟩
  have hcall:=hg x (Uw hx)
  obtain⟨u1,u2,u3,⟨w1,w2,w3,w4,w5,w6,w7⟩,u5⟩:=x
  simp only[Ue,Ul,aw] at hcall
  simp(disch:=try exact dI) only[hx,UD,Ue,Ul,aw,push_cast,seval]
  refine ae.pure hcall rfl ?_
  refine zgZ ?_
  exact⟨m+1,bu qsZ,by omega,by omega⟩
 ·have hltI:¬ (m:Int)<(l.length:Int):=by omega
  exact qsZ
theorem Ss (x:TFd)(hT:au Tryz.prog aH 27 [x.typ.pv,x.typ.pv] (.bool true))(hd:x.dflt.length<=9000000000000)(hv:∀ v∈x.dflt,v.ok):au Tryz.prog aH 60 [x.pv,x.pv] (.bool true):=by
 obtain⟨u1,u2,u3,⟨w1,w2,w3,w4,w5,w6,w7⟩,u5⟩:=x
 have h61:=So u5 19 (fun v hx=>nJ v (hv v hx)) hd
 simp only[TFd.typ,Ul] at hT
 refine au.intro Q60.2 (by simp[Q60]) ?_
 simp(disch:=try exact dI) only[Q60,Ue,Ul,aw,eq_self,push_cast,seval]
 refine ae.pure hT rfl ?_
 refine zgZ ?_
 refine ae.pure h61 rfl ?_
 exact qsZ
theorem DD:∀ (n:Nat) (t:Typ),bS n t->au Tryz.prog aH 27 [t.pv,t.pv] (.bool true)
 | 0,_,h=>h.elim
 | n+1,.mk k m M s w e f,h=>by
   have ih:=DD n
   simp only[bS] at h
   obtain⟨hw,hel,hfl,he,hf⟩:=h
   have h57:=Sq w (by omega)
   have h58:=Sp e 27 (fun x hx=>ih x (he x hx)) (by omega)
   have h59:=Sr f 60 (fun g hg=>Ss g (ih g.typ (hf g hg).2.2) (by have:=(hf g hg).1;omega) (hf g hg).2.1) (by omega)
   refine au.intro Q27.2 (by simp[Q27]) ?_
   simp(disch:=try exact dI) only[Q27,Ul,eq_self,push_cast,seval]
   refine ae.pure h57 rfl ?_
   refine zgZ ?_
   refine ae.pure h58 rfl ?_
   refine zgZ ?_
   refine ae.pure h59 rfl ?_
   exact qsZ
theorem PR (t:Typ)(ht:t.ok):au Tryz.prog aH 27 [t.pv,t.pv] (.bool true):=by
 obtain⟨n,hn⟩:=j9 t ht
 exact DD n t hn
open Go.RowKit
theorem Qo:jk 1 4 [.pv (.str [32]),.pv (.str [10]),.pv (.str [9,32]),.pv (.str [13,10])]=some (.pv (.list [.str [32],.str [10],.str [9,32],.str [13,10]]),[]):=rfl
theorem TO:fv 1 [.str [32],.str [10],.str [9,32],.str [13,10]] 0=some (.pv (.eptr [.str [32],.str [10],.str [9,32],.str [13,10]] 0 0))/\fv 1 [.str [32],.str [10],.str [9,32],.str [13,10]] 1=some (.pv (.eptr [.str [32],.str [10],.str [9,32],.str [13,10]] 1 0))/\fv 1 [.str [32],.str [10],.str [9,32],.str [13,10]] 2=some (.pv (.eptr [.str [32],.str [10],.str [9,32],.str [13,10]] 2 0))/\fv 1 [.str [32],.str [10],.str [9,32],.str [13,10]] 3=some (.pv (.eptr [.str [32],.str [10],.str [9,32],.str [13,10]] 3 0)):=⟨rfl,rfl,rfl,rfl⟩
theorem H5 (b:UInt8):(b.toNat:Int) % 4=0/\wV b=[32]\/(b.toNat:Int) % 4=1/\wV b=[10]\/(b.toNat:Int) % 4=2/\wV b=[9,32]\/(b.toNat:Int) % 4=3/\wV b=[13,10]:=by
 unfold wV
 by_cases h0:b.toNat % 4=0
 ·exact .inl ⟨by omega,if_pos h0⟩
 rw[if_neg h0]
 by_cases h1:b.toNat % 4=1
 ·exact .inr (.inl ⟨by omega,if_pos h1⟩)
 rw[if_neg h1]
 by_cases h2:b.toNat % 4=2
 ·exact .inr (.inr (.inl ⟨by omega,if_pos h2⟩))
 rw[if_neg h2]
 exact .inr (.inr (.inr ⟨by omega,rfl⟩))
theorem BO (s:List UInt8):(eD s).1.ok:=by
 have h:=(TG (T:=270) (p:=.undef) s).1
 unfold eD Q9
 split
 ·split
  ·exact h
  split
  ·exact h
  ·exact dq
 ·exact dq
section
variable {T:Nat}{p:PV}
theorem R8 (s0 bl:List UInt8)(hs:s0.length<=140737488355328)(hb:bl.length<=140737488351232):au Tryz.prog (bE T p) 10 [.str s0,.list (aC bl)] (.bool true):=by
 have hmin:min (s0.length:Int) 500=((min s0.length 500:Nat):Int):=by omega
 obtain⟨s,hse⟩:∃ s,s=s0.take (min s0.length 500):=⟨_,rfl⟩
 have hl:s.length<=500:=by rw[hse,List.length_take];omega
 have hsl:(s0.take (min s0.length 500))=s:=hse.symm
 have hk:=toE (T:=T) (p:=p) L7
 have h25:=Rz (T:=T) (p:=p) s hl
 have hlaw:=Fa (s:=s) (by omega)
 generalize rS s=q at *
 obtain⟨l,M⟩:=q
 simp only at h25 hlaw
 by_cases he:M.e=0
 rotate_left
 ·rw[decide_eq_false he] at h25
  clear hse hl hlaw
  refine au.intro JJ (by simp[F10]) ?_
  simp(disch:=try exact dI) only[F10,hmin,hsl,push_cast,seval]
  refine ae.pure h25 rfl ?_
  refine zgZ ?_
  refine ae.pure hk rfl ?_
  refine zgZ ?_
  refine ae.pure hk rfl ?_
  exact qsZ
 have htk:=hlaw he
 rw[decide_eq_true he] at h25
 clear hlaw
 have htk2:TokL s 0 ((gL bl l).map Prod.snd):=by rw[ur];exact htk
 obtain⟨hlen1,st1⟩:=pE (s:=s) (z:=[32]) (by decide) (by decide) (L:=gL bl l) hl htk2 (AU bl l)
 obtain⟨hlen2,st2⟩:=pE (s:=s) (z:=[]) (by simp) (by simp) (L:=gL bl l) hl htk2 (AU bl l)
 obtain⟨p1,p2⟩:=BN (by omega) hlen1 st1
 rw[List.append_nil] at hlen2 st2
 obtain⟨q1,q2⟩:=xA (by omega) hlen2 st2
 have hll:l.length<=500:=by have:=(Aq htk).2;omega
 have hfull:bv ((gL bl l).take l.length)=bv (gL bl l):=by
  rw[List.take_of_length_le]
  have:=congrArg List.length (ur bl l)
  rw[List.length_map] at this
  omega
 have hle:∀ i,(bv ((gL bl l).take i)).length<=65536:=fun i=>Nat.le_trans (AQ i) hlen2
 generalize hX:bv (gL bl l)=X at *
 have h18a:=BR (T:=T) (p:=p) s
 have h18b:=BR (T:=T) (p:=p) (X++[32])
 have h26a:=uN (T:=T) (p:=p) s
 have h26b:=uN (T:=T) (p:=p) X
 have hv:=BO s
 have ht:=xB s
 clear st1 st2 htk htk2 hlen1
 generalize eD s=a at *
 generalize eD (X++[32])=b at *
 generalize da s=c at *
 generalize da X=d at *
 obtain⟨v,n1,e1⟩:=a
 obtain⟨v2,n2,e2⟩:=b
 obtain⟨t,n3,e3⟩:=c
 obtain⟨t2,n4,e4⟩:=d
 simp only at p1 p2 q1 q2 h18a h18b h26a h26b hv ht
 subst p1 p2 q1 q2
 have hq:=toE (T:=T) (p:=p) (nJ v hv)
 have hqt:=toE (T:=T) (p:=p) (PR t ht)
 clear hv ht hse
 obtain⟨k1,k2,k3,k4,k5,k6⟩:=v
 obtain⟨t1,t2,t3,t4,t5,t6,t7⟩:=t
 simp only[Un,Ul] at h18a h18b h26a h26b hq hqt
 refine au.intro JJ (by simp[F10]) ?_
 simp(disch:=try exact dI) only[F10,hmin,hsl,push_cast,seval]
 refine ae.pure h25 rfl ?_
 refine zgZ ?_
 refine ae.pure hk rfl ?_
 refine zgZ ?_
 refine aK ([]) (fun i:Nat=>[(7,.pv (.str (bv ((gL bl l).take i)))),(8,.pv (.int .i64 (i:Int)))]) (fun _=>[]) (fun i=>i<=l.length) (fun i=>l.length - i) (0) ?_;intro e0 σ0 n0 h0;simp(disch:=try exact dI) only[push_cast,seval] at h0;obtain⟨rfl,rfl,rfl⟩:=h0;refine⟨?_,?_,?_⟩
 ·simp(disch:=try exact dI) only[List.take_zero,bv,push_cast,seval]
 ·exact U8 _
 intro i hi
 have hli:=hle i
 by_cases hlt:i<l.length
 ·have hltI:(i:Int)<(l.length:Int):=by omega
  obtain⟨x,hx⟩:∃ x,l[i]? = some x:=⟨_,Uo hlt⟩
  have hx':(l.map PV.str)[i]? = some (.str x):=by simp[hx]
  have hts:=r4 (bl:=bl) hx
  have hli2:=hle (i+1)
  rw[hts] at hli2
  simp only[List.length_append] at hli2
  have hol:(aC bl).length=bl.length:=dX bl
  by_cases hib:i<bl.length
  ·have hibI:(i:Int)<(bl.length:Int):=by omega
   obtain⟨y,hy⟩:∃ y,bl[i]? = some y:=⟨_,Uo hib⟩
   have hy':(aC bl)[i]? = some (.int .u8 (y.toNat:Int)):=by simp[aC,hy]
   have hyb:y.toNat<256:=y.toNat_lt
   rw[hy,Option.getD_some] at hts hli2
   rcases H5 y with ⟨hm,hsp⟩ | ⟨hm,hsp⟩ | ⟨hm,hsp⟩ | ⟨hm,hsp⟩
   all_goals
    rw[hsp] at hts hli2
    simp(disch:=try exact dI) only[hol,hibI,hy',hm,hx',Qo,TO,push_cast,seval]
    exact⟨i+1,bu (by simp(disch:=try exact dI) only[hts,push_cast,seval]),by omega,by omega⟩
  ·have hibI:¬ (i:Int)<(bl.length:Int):=by omega
   rw[List.getElem?_eq_none (by omega),Option.getD_none,show wV 0=[32] from rfl] at hts hli2
   simp(disch:=try exact dI) only[hol,hibI,hx',Qo,TO,push_cast,seval]
   exact⟨i+1,bu (by simp(disch:=try exact dI) only[hts,push_cast,seval]),by omega,by omega⟩
 ·have hltI:¬ (i:Int)<(l.length:Int):=by omega
  obtain rfl:i=l.length:=by omega
  rw[hfull]
  refine zgZ ?_
  refine ae.pure h18a rfl ?_
  refine zgZ ?_
  refine ae.pure h18b rfl ?_
  refine zgZ ?_
  refine ae.pure h26a rfl ?_
  refine zgZ ?_
  refine ae.pure h26b rfl ?_
  simp(disch:=try exact dI) only[eq_self,push_cast,seval]
  refine ae.pure hq rfl ?_
  simp(disch:=try exact dI) only[eq_self,push_cast,seval]
  refine ae.pure hqt rfl ?_
  exact qsZ
end
theorem H2 {p1:PV}(h1:HasT Tryz.prog 37 p1):∃ os:List UInt8,p1 = .list (aC os)/\os.length<=140737488351232:=by
 obtain⟨os,rfl,hl,_⟩:=G2 (f:=fun b:UInt8=>PV.int .u8 (b.toNat:Int)) (Q:=fun _=>True) h1 Tryz.underlying37 (b:=1) (by kernel_rfl) fun x hx=>by
  obtain⟨n,rfl,hw⟩:=Ho hx Tryz.underlying5
  have hr:0<=n/\n<256:=by
   simp only[Lit.wf,Bool.and_eq_true,decide_eq_true_eq] at hw
   have h1:IntKind.u8.min=0:=rfl
   have h2:IntKind.u8.max=255:=rfl
   omega
  refine⟨UInt8.ofNat n.toNat,?_,trivial⟩
  rw[UInt8.toNat_ofNat',show ((n.toNat % 2 ^ 8:Nat):Int)=n by omega]
 exact⟨os,rfl,by omega⟩
theorem Et (q:PV)(p0 p1:PV)(h0:HasT Tryz.prog 9 p0)(h1:HasT Tryz.prog 37 p1):au Tryz.prog (bE 270 q) 10 [p0,p1] (.bool true):=by
 obtain⟨s,rfl,hs⟩:=Hn h0 Tryz.underlying9
 obtain⟨os,rfl,hl⟩:=H2 h1
 exact R8 s os (by omega) hl
open Go.Lib Go.Proofs
theorem u8X:U8Extra Tryz.prog Tryz.lays196_ren:=⟨by kernel_rfl,by kernel_rfl,by kernel_rfl,by kernel_rfl,by kernel_rfl,by kernel_rfl,by kernel_rfl⟩
theorem Ht {W:World}(h1:VarReads Tryz.prog W "unicode/utf8.first" firstData) (h2:VarReads Tryz.prog W "unicode/utf8.acceptRanges" acceptData)
  (h3:VarReads Tryz.prog W "internal/strconv.uint64pow10" (tabData .u64 pow10Tab)) (h5:VarReads Tryz.prog W "math/bits.deBruijn64tab" (tabData .u8 (deBruijn64tab.map fun n:Nat=>(n:Int)))):cZ aH W (oG W):=by
 have hu:=utf8Tabs_of_readsT (U8Types.of196 Uh) u8X h1 h2
 refine Di fun g hg=>?_
 unfold aH at hg ⊢
 by_cases e3:g=3
 ·subst e3
  exact m7 (t:=219) (e:=181) (m:=20) h3 (by kernel_rfl) (by kernel_rfl) (by kernel_rfl) (by kernel_rfl) (by kernel_rfl) (by kernel_rfl) (by kernel_rfl)
 rw[if_neg e3] at hg ⊢
 by_cases e1:g=0
 ·subst e1
  rw[if_pos rfl] at hg ⊢
  refine n9 (t:=159) (e:=5) (m:=256) h1 (by kernel_rfl) (by kernel_rfl) (by kernel_rfl) (by kernel_rfl) fun o p hp=>?_
  rw[QY,UB,Uq] at hp
  obtain⟨c,hc,rfl⟩:=hp
  obtain⟨hlt,hcc⟩:=Up.1 hc
  simp at hlt hcc
  subst hcc
  exact⟨_,_,rfl,hu.1 o hlt⟩
 rw[if_neg e1] at hg ⊢
 by_cases e2:g=1
 ·subst e2
  rw[if_pos rfl] at hg ⊢
  refine n9 (t:=162) (e:=161) (m:=16) h2 (by kernel_rfl) (by kernel_rfl) (by kernel_rfl) (by kernel_rfl) fun o p hp=>?_
  rw[Ny,UB,Uq] at hp
  obtain⟨c,hc,rfl⟩:=hp
  obtain⟨hlt,hcc⟩:=Up.1 hc
  simp at hlt hcc
  subst hcc
  have:=hu.2 (o / 2) (by omega)
  by_cases ho:o % 2=0
  ·rw[if_pos ho]
   refine⟨_,_,rfl,?_⟩
   have:=this.1
   rwa [show 2*(o / 2)=o by omega] at this
  ·rw[if_neg ho]
   refine⟨_,_,rfl,?_⟩
   have:=this.2
   rwa [show 2*(o / 2)+1=o by omega] at this
 rw[if_neg e2] at hg ⊢
 by_cases e5:g=5
 ·subst e5
  rw[if_pos rfl] at hg ⊢
  have:=m7 (g:=5) (t:=257) (e:=5) (m:=64) h5 (by kernel_rfl) (by kernel_rfl) (by kernel_rfl) (by kernel_rfl) (by kernel_rfl) (by kernel_rfl) (by kernel_rfl)
  rw[List.map_map] at this
  exact this
 rw[if_neg e5] at hg
 exact absurd rfl hg
open Go.ChangeShapes
theorem Oi : "*" ++ "errors.errorString" = "*errors.errorString":=by decide
theorem OJ (u:TypeId)(h:Tryz.prog.typeName? 3 u=some "*errors.errorString"):u=270:=
 typeName_ptr_named (nm:= "errors.errorString") (by rw[Oi];kernel_rfl) (by kernel_rfl) (by decide) u (by rw[Oi];exact h)
theorem PQ {text:List UInt8}{r:List (String×DataW Unit)}{W:World}(h:laidMet Tryz.prog (("strconv.ErrSyntax",.iface "*errors.errorString" (.ptr (.agg [.lit (.string text)])))::r) W) :
  ∃ (a:Addr) (s:ByteArray),W.var? Tryz.prog "strconv.ErrSyntax" = some #[.iface 270 (.pointer (some a))]/\W.cell? a=some (.string s)/\s.data.toList=text/\s.size<=maxLen:=
 laid_sentinel h (g:=6) (ti:=85) (te:=272) (ts:=9) (by kernel_rfl) (by kernel_rfl) Tryz.underlying85 OJ Tryz.underlying270 Tryz.underlying272 rfl rfl Tryz.underlying9 (by kernel_rfl) (by kernel_rfl)
theorem Dh {W:World}(h1:VarReads Tryz.prog W "unicode/utf8.first" firstData) (h2:VarReads Tryz.prog W "unicode/utf8.acceptRanges" acceptData)
  (h3:VarReads Tryz.prog W "internal/strconv.uint64pow10" (tabData .u64 pow10Tab)) (h5:VarReads Tryz.prog W "math/bits.deBruijn64tab" (tabData .u8 (deBruijn64tab.map fun n:Nat=>(n:Int))))
  (hE:∃ (a:Addr) (s:ByteArray),W.var? Tryz.prog "strconv.ErrSyntax" = some #[.iface 270 (.pointer (some a))]/\W.cell? a=some (.string s)):∃ p,cZ (bE 270 p) W (oG W):=by
 obtain⟨⟨b,o,sp⟩,s,hv,hc⟩:=hE
 have hsp:sp=none:=by
  unfold World.cell? at hc
  cases sp with
  | none=>rfl
  | some k=>split at hc<;>simp at hc
 subst hsp
 have hg:Tryz.prog.globalNamed "strconv.ErrSyntax" = some 6:=by kernel_rfl
 have hcell:W.cell? ⟨6,0,none⟩=some (.iface 270 (.pointer (some ⟨b,o,none⟩))):=by
  have:=World.var?_cell hg hv 0
  simpa using this
 have hG:=Ht h1 h2 h3 h5
 refine⟨.gptr b o,fun g o' p hp=>?_,fun g hg'=>?_⟩
 ·unfold bE at hp
  by_cases e0:g=6
  ·subst e0
   rw[if_pos rfl] at hp
   cases o' with
   | zero=>cases hp;exact⟨World.block_lt_of_cell? W _ hcell,_,hcell,rfl,.iface _ _ _ (.gptr _ _)⟩
   | succ o'=>simp at hp
  ·rw[if_neg e0] at hp
   exact hG.1 g o' p hp
 ·unfold bE at hg' ⊢
  by_cases e0:g=6
  ·subst e0
   rw[if_pos rfl]
   unfold World.var? at hv
   rw[hg] at hv
   simp only[Option.bind_some] at hv
   split at hv
   ·rename_i cs T fz hh
    cases hv
    exact⟨_,T,fz,hh,rfl⟩
   ·cases hv
  ·rw[if_neg e0] at hg' ⊢
   exact hG.2 g hg'
end Go.Proofs.YtamoeblcphjbaaaGreatDoor
namespace Go.Proofs.YtamoeblcphjbaaaGreatDoor.literalBlanksDone
open Go Go.Ab Go.RowKit Go.ChangeShapes Go.WideShapes Go.ChangeAt
theorem own:ownKnob Tryz.prog.godebug=none:=by kernel_rfl
theorem L6:laidOutB Tryz.prog=true:=by kernel_rfl
theorem Sg {W:World}(h:laidMetH Tryz.prog Rows.literalBlanksRow.laid W):∃ p,cZ (bE 270 p) W (oG W):=by
 have h':laidMet Tryz.prog Rows.literalBlanksRow.laid W:=h
 obtain⟨a,s,e1,e2,_⟩:=PQ (((((h'.tail).tail).tail).tail).tail)
 exact Dh (Go.Lib.laidMet.reads h' (n:= "unicode/utf8.first") (d:=Go.Lib.firstData) (by rw[show Go.Lib.firstData=(Rows.laid_unicode_utf8_first:DataW Unit) by kernel_rfl];exact List.Mem.tail _ (List.Mem.tail _ (List.Mem.tail _ (List.Mem.tail _ (List.Mem.tail _ (List.Mem.tail _ (List.Mem.head _))))))))
  (Go.Lib.laidMet.reads h' (n:= "unicode/utf8.acceptRanges") (d:=Go.Lib.acceptData) (by rw[show Go.Lib.acceptData=(Rows.laid_unicode_utf8_acceptRanges:DataW Unit) by kernel_rfl];exact List.Mem.tail _ (List.Mem.tail _ (List.Mem.tail _ (List.Mem.head _)))))
  (Go.Lib.laidMet.reads h' (n:= "internal/strconv.uint64pow10") (d:=(Go.Lib.tabData .u64 Go.Lib.pow10Tab)) (by rw[show (Go.Lib.tabData .u64 Go.Lib.pow10Tab)=(Rows.laid_internal_strconv_uint64pow10:DataW Unit) by kernel_rfl];exact List.Mem.tail _ (List.Mem.tail _ (List.Mem.head _))))
  (Go.Lib.laidMet.reads h' (n:= "math/bits.deBruijn64tab") (d:=(Go.Lib.tabData .u8 (Go.Lib.deBruijn64tab.map fun n:Nat=>(n:Int)))) (by rw[show (Go.Lib.tabData .u8 (Go.Lib.deBruijn64tab.map fun n:Nat=>(n:Int)))=(Rows.laid_math_bits_deBruijn64tab:DataW Unit) by kernel_rfl];exact List.Mem.tail _ (List.Mem.head _)))
  ⟨a,s,e1,e2⟩
theorem Se:Tryz.f10.params = #[9,37]:=by kernel_rfl
theorem kA (H:Type)(enc:TypeId×Value->H)(W:World)(base:Nat)(args:Array Value)(ds gs:List (DataW H))(before:List MemPlace)
  (hval:∀ (j:Nat) t v,Tryz.f10.params[j]? = some t->args[j]? = some v->Value.okWide Tryz.prog W .any base t v)
  (hW:DataW.Whole enc Tryz.prog Tryz.f10.params.toList Rows.literalBlanksSpec.vars false W args.toList ds gs before) (hsz:(DataW.weightsEach Tryz.prog (Tryz.f10.params.toList++Rows.literalBlanksSpec.plain.varTypes Tryz.prog) (ds++gs)).all (·<=reachBytes)=true) (hL:laidMetH Tryz.prog Rows.literalBlanksRow.laid W) :
  Calls Tryz.prog 10 args W fun e W'=>∃ v,e = .returned v/\Rows.literalBlanksSpec.post enc Tryz.prog Tryz.f10 false true false false W args v W':=by
 obtain⟨p,hp0⟩:=Sg hL
 refine G4 (ts:=[9,37,5,4]) (tb:=4) (G:=bE 270 p) rfl L6 (by decide +kernel) (by kernel_rfl) (by decide +kernel) (by kernel_rfl) (by kernel_rfl) ?_ hval hW hsz hp0 ?_
 ·intro ds hd
  rw[Se] at hd
  match ds,hd with
  | [d0,d1],_=>rfl
 ·intro ps hp hT
  rw[Se] at hp hT
  match ps,hp with
  | [p0,p1],_=>
    exact Et p p0 p1 (hT 0 9 p0 rfl rfl) (hT 1 37 p1 rfl rfl)
def x6:DataW Unit->List Value
 | .lit (.int k n)=>[Value.int k n]
 | .agg xs=>xs.map fun x=>match x with
   | .lit (.int k n)=>Value.int k n
   | _=>Go.undef
 | _=>[]
def CI:DataW Unit->Array Value
 | .agg xs=>(xs.flatMap x6).toArray
 | _=>#[]
def pD (d:DataW Unit):Obj->Obj
 | .cells _ t frozen=>.cells (CI d) t frozen
 | o=>o
def Jr (d:DataW Unit):Obj:=
 match d with
 | .iface _ (.ptr (.agg [.lit (.string bs)]))=>.cells #[.string ⟨bs.toArray⟩] 272
 | _=>.cells #[] 272
def IT (k:Nat):Obj->Obj
 | .cells _ t frozen=>.cells #[.iface 270 (.pointer (some ⟨k,0,none⟩))] t frozen
 | o=>o
noncomputable def eI (os:Os):World:=
 { World.holding Tryz.prog os ⟨#[],#[],[]⟩ with heap:=((((((((((World.holding Tryz.prog os ⟨#[],#[],[]⟩).heap.push (Jr Rows.laid_strconv_ErrRange)).push (Jr Rows.laid_strconv_ErrSyntax)).modify 4 (pD Rows.laid_math_bits_deBruijn32tab)).modify 5 (pD Rows.laid_math_bits_deBruijn64tab)).modify 3 (pD Rows.laid_internal_strconv_uint64pow10)).modify 1 (pD Rows.laid_unicode_utf8_acceptRanges)).modify 7 (IT ((World.holding Tryz.prog os ⟨#[],#[],[]⟩).heap.size+0))).modify 6 (IT ((World.holding Tryz.prog os ⟨#[],#[],[]⟩).heap.size+1))).modify 0 (pD Rows.laid_unicode_utf8_first)) }
theorem G5 (os:Os):laidMet Tryz.prog Rows.literalBlanksRow.laid ((eI os).forCall (fun _ _=>0) ⟨#[],#[.string ⟨#[]⟩,.slice none 0 0],[]⟩).memory:=
 laidMet_of_run' 8 (by kernel_rfl) (by kernel_rfl)
theorem reads (os:Os){H:Type}(enc:TypeId×Value->H):∃ places,DataW.whole enc Tryz.prog ((eI os).forCall (fun _ _=>0) ⟨#[],#[.string ⟨#[]⟩,.slice none 0 0],[]⟩).memory Tryz.f10.params.toList Rows.literalBlanksSpec.vars false (#[.string ⟨#[]⟩,.slice none 0 0]:Array Value).toList 8=some ([.lit (.string []),.nil],[],places):=
 ⟨[],by kernel_rfl⟩
theorem Rw:Tryz.checked.prog.inits.idxOf? 10=none:=by kernel_rfl
theorem Ru (os:Os):World.variablesB Tryz.checked.prog ((eI os).forCall (fun _ _=>0) ⟨#[],#[.string ⟨#[]⟩,.slice none 0 0],[]⟩)=true:=by kernel_rfl
theorem Rv (os:Os):List.take ((begin Tryz.checked.prog (fun _ _=>0) default).world.heap.size - Tryz.checked.prog.globals.size) (List.drop Tryz.checked.prog.globals.size ((eI os).forCall (fun _ _=>0) ⟨#[],#[.string ⟨#[]⟩,.slice none 0 0],[]⟩).heap.toList)=List.drop Tryz.checked.prog.globals.size (begin Tryz.checked.prog (fun _ _=>0) default).world.heap.toList:=by kernel_rfl
theorem Rt (os:Os):Input.okWideB Tryz.checked.prog ((eI os).forCall (fun _ _=>0) ⟨#[],#[.string ⟨#[]⟩,.slice none 0 0],[]⟩) 10 ⟨#[],#[.string ⟨#[]⟩,.slice none 0 0],[]⟩=true:=by kernel_rfl
theorem Pp (os:Os)(started:os.Started)(H:Type)(enc:TypeId×Value->H)(F:Stop.Interp) :
  ReturnsInHanded {} Tryz.checked os 10 .any ((OpenSpec.ofChange Rows.literalBlanksSpec).preRow enc Tryz.prog Tryz.f10 Rows.literalBlanksRow.domain false Rows.literalBlanksRow.laid) (((OpenSpec.ofChange Rows.literalBlanksSpec).at F).post enc Tryz.prog Tryz.f10 false true false false):=by
 obtain⟨places,hx⟩:=reads os enc
 refine returnsInHanded_of_row (C:=Tryz.checked) (s:=OpenSpec.ofChange Rows.literalBlanksSpec) own started Rw Tryz.func10
  (witness_row_at (enc:=enc) (C:=Tryz.checked) false (eI os) #[.string ⟨#[]⟩,.slice none 0 0] rfl (Ru os) (Rv os) (Rt os)
   (OpenSpec.preRow_of_cond 8 hx (by kernel_rfl) (fun k hk=>by cases hk) (by kernel_rfl) (G5 os))) ?_
 intro W base args ds gs before hval hW _ _ hsz hL _ _
 exact kA H enc W base args ds gs before hval hW hsz hL
theorem Sk:joinedFacts Tryz.pinned.checked.prog 10 Tryz.f10 (OpenSpec.ofChange Rows.literalBlanksSpec).bare Rows.literalBlanksRow=true:=by
 unfold joinedFacts
 repeat' (with_reducible refine Bool.and_eq_true_iff.2 ⟨?_,?_⟩)
 all_goals as_aux_lemma=>kernel_rfl
