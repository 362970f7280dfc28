/- A part. -/
import Derived.Test.YtamoeblcphjbaaaGreatDoorBlLSh5
set_option linter.unusedVariables false
set_option linter.unusedSimpArgs false
set_option maxHeartbeats 16000000
set_option maxRecDepth 100000
open List renaming getElem?_eq_getElem->Uo,getElem?_eq_none->UN,getElem?_eq_some_iff->Up
open Int renaming cast_ofNat_Int->UU,natCast_add->Vc
open UInt8 renaming toNat_inj->US
namespace Go.Proofs.YtamoeblcphjbaaaGreatDoor
open Go Go.Ab
attribute [local irreducible] vc
section
variable {T:Nat}{p:PV}{Q:AExit->St->Prop}
theorem PI {F:St->Prop}(M:Mo)(i z:Nat)(hz:z<=M.s.length)(hs:M.s.length<=65536)(hF:∀ X n,F ⟨(0,.ptr 0 0)::(2,.pv (.int .i64 (i:Int)))::(4,.pv (.int .i64 ((mL M.s z).1:Int)))::X,[(0,moB M)],n⟩)(n0:Nat) :
  vc Tryz.prog (bE T p) 1 Np (zF F Q) ⟨[(0,.ptr 0 0),(2,.pv (.int .i64 (i:Int))),(4,.pv (.int .i64 (z:Int)))],[(0,moB M)],n0⟩:=by
 unfold Np
 have e_d:∀ b:UInt8,¬ b=46->¬ (M.s[z]? = some 46/\(M.s[z+1]?.any isD)=true)\/¬ M.s[z]? = some b:=fun b hb=>by
  by_cases h:M.s[z]? = some b
  ·exact .inl (fun q=>hb (Option.some.inj (h.symm.trans q.1)))
  ·exact .inr h
 by_cases hzl:z<M.s.length
 ·obtain⟨b,hb⟩:∃ b,M.s[z]? = some b:=⟨_,Uo hzl⟩
  have hzI:(z:Int)<(M.s.length:Int):=by omega
  by_cases h46:b=46
  ·subst h46
   have h46I:((46:UInt8).toNat:Int)=46:=rfl
   by_cases h1:z+1<M.s.length
   ·obtain⟨d,hd⟩:∃ d,M.s[z+1]? = some d:=⟨_,Uo h1⟩
    have h1I:(z:Int)+1<(M.s.length:Int):=by omega
    have hdg:=toE (T:=T) (p:=p) (ec d)
    cases hD:isD d with
    | true=>
      rw[hD] at hdg
      rw[qo ⟨hb,by rw[hd];exact hD⟩] at hF
      have hE:=fun F h=>P1 (T:=T) (p:=p) (Q:=Q) (F:=F) M i (z+1) (by omega) hs [] h
      simp only[moB,moC,UU,Vc] at hF hE ⊢
      simp(disch:=try exact dI) only[h1I,hzI,hb,hd,ag,h46I,push_cast,seval]
      refine ae.pure hdg rfl ?_
      refine zgZ ?_
      refine hE _ (fun n=>?_) _
      exact hF [] _
    | false=>
      rw[hD] at hdg
      rw[ea (fun q=>by rw[hd] at q;have:=q.2;rw[show (some d).any isD=isD d from rfl,hD] at this;cases this) (by rw[hb];decide)] at hF
      simp only[moB,moC,UU,Vc] at hF ⊢
      simp(disch:=try exact dI) only[h1I,hzI,hb,hd,ag,h46I,push_cast,seval]
      refine ae.pure hdg rfl ?_
      simp(disch:=try exact dI) only[hzI,hb,ag,h46I,push_cast,seval]
      exact hF _ _
   ·have h1I:¬ (z:Int)+1<(M.s.length:Int):=by omega
    rw[ea (fun q=>by rw[UN (by omega:M.s.length<=z+1)] at q;cases q.2) (by rw[hb];decide)] at hF
    simp only[moB,moC,UU,Vc] at hF ⊢
    simp(disch:=try exact dI) only[h1I,hzI,hb,ag,h46I,push_cast,seval]
    exact hF _ _
  ·have h46I:¬ (b.toNat:Int)=46:=fun h=>h46 (US.1 (by simpa using (show b.toNat=46 by omega)))
   have hn:¬ (M.s[z]? = some 46/\(M.s[z+1]?.any isD)=true):=fun q=>h46 (Option.some.inj (hb.symm.trans q.1))
   by_cases h100:b=100
   ·subst h100
    have hI:((100:UInt8).toNat:Int)=100:=rfl
    rw[lB hn hb] at hF
    simp only[moB,moC,UU,Vc] at hF ⊢
    by_cases h1:z+1<M.s.length
    ·have h1I:(z:Int)+1<(M.s.length:Int):=by omega
     simp(disch:=try exact dI) only[h1I,hzI,hb,ag,hI,push_cast,seval]
     exact hF _ _
    ·have h1I:¬ (z:Int)+1<(M.s.length:Int):=by omega
     simp(disch:=try exact dI) only[h1I,hzI,hb,ag,hI,push_cast,seval]
     exact hF _ _
   ·have hI:¬ (b.toNat:Int)=100:=fun h=>h100 (US.1 (by simpa using (show b.toNat=100 by omega)))
    rw[ea hn (fun q=>h100 (Option.some.inj (hb.symm.trans q)))] at hF
    simp only[moB,moC,UU,Vc] at hF ⊢
    by_cases h1:z+1<M.s.length
    ·have h1I:(z:Int)+1<(M.s.length:Int):=by omega
     simp(disch:=try exact dI) only[h1I,hzI,hb,ag,hI,h46I,push_cast,seval]
     exact hF _ _
    ·have h1I:¬ (z:Int)+1<(M.s.length:Int):=by omega
     simp(disch:=try exact dI) only[h1I,hzI,hb,ag,hI,h46I,push_cast,seval]
     exact hF _ _
 ·have hzI:¬ (z:Int)<(M.s.length:Int):=by omega
  have h1I:¬ (z:Int)+1<(M.s.length:Int):=by omega
  have hnn:=UN (l:=M.s) (i:=z) (by omega)
  rw[ea (fun q=>by rw[hnn] at q;cases q.1) (by rw[hnn];intro q;cases q)] at hF
  simp only[moB,moC,UU,Vc] at hF ⊢
  simp(disch:=try exact dI) only[h1I,hzI,push_cast,seval]
  exact hF _ _
theorem RV (M:Mo)(i a:Nat)(v3:AV)(ha:a<=M.s.length)(hs:M.s.length<=65536)(X:List (Nat×AV))(hQ:∀ n,Q .norm ⟨[(0,.ptr 0 0),(2,.pv (.int .i64 (i:Int))),(4,.pv (.int .i64 ((mL M.s (aN isD M.s a)).1:Int)))],[(0,moB { M with k:=110 })],n⟩)(n0:Nat) :
  vc Tryz.prog (bE T p) 1 No Q ⟨(0,.ptr 0 0)::(2,.pv (.int .i64 (i:Int)))::(3,v3)::(4,.pv (.int .i64 (a:Int)))::X,[(0,moB M)],n0⟩:=by
 unfold No
 refine zgZ ?_
 refine Sy M i a v3 ha hs X (fun n=>?_) _
 refine zgZ ?_
 refine PI M i _ (bI ha) hs (fun X n=>?_) _
 simp only[moB,moC,UU,Vc] at hQ ⊢
 refine zgZ ?_
 exact hQ _
def Fr:List UInt8:=[91,93,123,125,40,41,58,44,61,63,124]
theorem Od {i:Nat}(h:i<11):∃ x:UInt8,Fr[i]? = some x/\([PV.int .u8 91,.int .u8 93,.int .u8 123,.int .u8 125,.int .u8 40,.int .u8 41,.int .u8 58,.int .u8 44,.int .u8 61,.int .u8 63,.int .u8 124]:List PV)[i]? = some (.int .u8 (x.toNat:Int)):=by
 have hl:i<Fr.length:=h
 refine⟨Fr[i],Uo hl,?_⟩
 exact rq (s:=Fr) (Uo hl)
def Ft (c:UInt8)(i:Nat):Nat:=if c∈Fr.take i then c.toNat else 0
theorem Fs {c:UInt8}{i:Nat}(h:Fr[i]? = some c):Ft c (i+1)=c.toNat:=by
 unfold Ft
 rw[bc h,if_pos (by simp)]
theorem AG {c x:UInt8}{i:Nat}(h:Fr[i]? = some x)(hx:¬ x=c):Ft c (i+1)=Ft c i:=by
 unfold Ft
 rw[bc h]
 have:(c∈Fr.take i++[x])↔c∈Fr.take i:=by
  rw[List.mem_append,List.mem_singleton]
  exact⟨fun q=>q.elim id fun q=>absurd q.symm hx,.inl⟩
 simp only[this]
theorem RB (M:Mo)(i a:Nat)(c:UInt8)(hk:M.k=0)(hM:M.e=0)(X:List (Nat×AV))(hQ:∀ X n,Q .norm ⟨(0,.ptr 0 0)::(2,.pv (.int .i64 (i:Int)))::(4,.pv (.int .i64 (a:Int)))::X,[(0,moB (if pi c=true then { M with k:=c.toNat } else cC M 13 i))],n⟩)(n0:Nat)(hn:¬ n0=0) :
  vc Tryz.prog (bE T p) 1 Nn Q ⟨(0,.ptr 0 0)::(2,.pv (.int .i64 (i:Int)))::(3,.pv (.int .u8 (c.toNat:Int)))::(4,.pv (.int .i64 (a:Int)))::X,[(0,moB M)],n0⟩:=by
 have hf:=vS (T:=T) (p:=p) M i 13
 have h00:Ft c 0=0:=rfl
 have h11:Ft c 11=if pi c=true then c.toNat else 0:=by
  unfold Ft pi
  simp only[decide_eq_true_eq]
  rfl
 unfold Nn
 obtain⟨ms,mn,mk,mp,mx,mv,me,mb⟩:=M
 simp only at hk hM
 subst hk
 subst hM
 simp only[moB,moC,UU,Vc] at hQ hf ⊢
 simp(disch:=try exact dI) only[hn,push_cast,seval]
 refine kL ([]) (fun y:Nat=>[(108,.pv (.int .i64 (y:Int)))]) (fun y=>[(0,.cells 95 true [.pv (.str ms),.pv (.int .i64 (mn:Int)),.pv (.int .u8 (Ft c y:Int)),.pv (.int .i64 (mp:Int)),.pv (.str mx),.pv (.str mv),.pv (.int .i64 0),.pv (.int .i64 (mb:Int))])]) (fun y=>y<=11) (fun y=>11 - y) (0) ([0,2,4]) (fun y=>y=11) ?_;intro e0 σ0 n0 h0;simp(disch:=try exact dI) only[push_cast,seval] at h0;obtain⟨rfl,rfl,rfl⟩:=h0;refine⟨?_,?_,?_,?_⟩
 ·simp(disch:=try exact dI) only[h00,hn,push_cast,seval]
 ·omega
 ·intro y hy
  by_cases hlt:y<11
  ·obtain⟨x,hx,hx2⟩:=Od hlt
   have hltI:(y:Int)<11:=by omega
   by_cases hxc:x=c
   ·subst hxc
    have hh:=Fs hx
    simp(disch:=try exact dI) only[hn,hltI,hx2,push_cast,seval]
    exact⟨y+1,bu (by simp(disch:=try exact dI) only[hh,hn,push_cast,seval]),by omega,by omega⟩
   ·have hh:=AG hx hxc
    have hxI:¬ (x.toNat:Int)=(c.toNat:Int):=fun h=>hxc (US.1 (by omega))
    simp(disch:=try exact dI) only[hn,hltI,hx2,hxI,push_cast,seval]
    exact⟨y+1,bu (by simp(disch:=try exact dI) only[hh,hn,push_cast,seval]),by omega,by omega⟩
  ·have hltI:¬ (y:Int)<11:=by omega
   simp(disch:=try exact dI) only[hn,hltI,push_cast,seval]
   exact⟨y,by omega,by simp(disch:=try exact dI) only[hn,push_cast,seval]⟩
 intro y hy s1 hs1
 simp(disch:=try exact dI) only[hn,push_cast,seval] at hs1
 subst hs1
 subst hy
 cases hb:pi c with
 | true=>
   rw[hb,if_pos rfl] at h11
   simp only[hb,if_true] at hQ
   have hc0:¬ (c.toNat:Int)=0:=fun h=>by
    have:c=0:=US.1 (show c.toNat=0 by omega)
    subst this
    exact absurd hb (by decide)
   simp(disch:=try exact dI) only[h11,hc0,push_cast,seval]
   exact hQ _ _
 | false=>
   rw[hb,if_neg (by decide)] at h11
   simp only[hb,Bool.false_eq_true,if_false] at hQ
   simp(disch:=try exact dI) only[h11,push_cast,seval]
   refine ae.lentK hf [0] rfl qsZ qsZ ?_
   refine zgZ ?_
   exact hQ [] _
end
section
variable {T:Nat}{p:PV}{Q:AExit->St->Prop}
def SF (M:Mo):Mo:={ M with nx:=aN az M.s M.nx,k:=0,p:=aN az M.s M.nx,x:=[],v:=[] }
theorem Lt {M:Mo}{c:UInt8}(h0:M.e=0)(hc:M.s[aN az M.s M.nx]? = some c):nextM M=lz (gX (rJ (SF M) (aN az M.s M.nx) c) (aN az M.s M.nx)) (aN az M.s M.nx):=by
 unfold nextM
 rw[hc]
 simp only
 rw[if_pos h0]
 rfl
theorem Lv {M:Mo}(h:¬ M.e=0\/M.s[aN az M.s M.nx]? = none):nextM M=SF M:=by
 unfold nextM
 cases hc:M.s[aN az M.s M.nx]? with
 | none=>rfl
 | some c=>
   rcases h with h | h
   ·simp only;rw[if_neg h];rfl
   ·rw[hc] at h;cases h
theorem BA (M:Mo)(a:Nat)(v:Bool)(Z:Sc):(dt M a v Z).2.k=M.k/\(dt M a v Z).2.s=M.s:=by
 rcases BB M a v Z with h | ⟨e,i,h⟩
 ·rw[h];exact⟨rfl,rfl⟩
 ·rw[h,Mx,cj];exact⟨rfl,rfl⟩
theorem R7 (M:Mo)(i:Nat)(c:UInt8)(hc:M.s[i]? = some c)(hs:M.s.length<=65536)(hk:M.k=0)(h0:M.e=0)(hQ:TV Q (moB (lz (gX (rJ M i c) i) i)))(n0:Nat)(hn:¬ n0=0) :
  vc Tryz.prog (bE T p) 1 Nq (zF (vc Tryz.prog (bE T p) 1 ID Q) Q) ⟨[(0,.ptr 0 0),(2,.pv (.int .i64 (i:Int))),(3,.pv (.int .u8 (c.toNat:Int))),(4,.pv (.int .i64 ((i:Int)+1)))],[(0,moB M)],n0⟩:=by
 have hi:i<M.s.length:=(Up.1 hc).1
 have hends:=vg (M:=M) hc
 unfold rJ at hQ hends
 have e0:(i:Int)+1=((i+1:Nat):Int):=by omega
 unfold Nq
 by_cases h1:c.toNat=34
 ·have hI:((c.toNat:Int)=34)=True:=eq_true (by omega)
  rw[if_pos h1] at hQ hends
  have hst:=Oh (T:=T) (p:=p) { M with k:=115 } i hs hi
  have hkk:=BA { M with k:=115 } i true (ia (M.s.length+1) (M.s.drop (i+1)) (i+1) [])
  change (EP { M with k:=115 } i).2.k=115/\(EP { M with k:=115 } i).2.s=M.s at hkk
  generalize EP { M with k:=115 } i=q at *
  obtain⟨⟨o,j⟩,N⟩:=q
  simp only at hst hkk hends hQ
  have ht:=m6 (T:=T) (p:=p) (Q:=Q) { N with v:=o } i j hends.1 (by rw[hkk.2];exact hends.2.1) (by rw[hkk.2];exact hs) [] hQ
  simp only[moB,moC,UU,Vc] at hst ht ⊢
  simp(disch:=try exact dI) only[hI,push_cast,seval]
  refine ae.lentK hst [0] rfl qsZ qsZ ?_
  refine zgZ ?_
  exact ht _
 have hI:¬ (c.toNat:Int)=34:=by omega
 rw[if_neg h1] at hQ hends
 have hl:=toE (T:=T) (p:=p) (qH c)
 have hd:=toE (T:=T) (p:=p) (ec c)
 by_cases h2:c.toNat=120/\M.s[i+1]? = some 34
 ·obtain⟨g1,g2⟩:=h2
  have hI2:((c.toNat:Int)=120)=True:=eq_true (by omega)
  have hi1:i+1<M.s.length:=(Up.1 g2).1
  have hi1I:(i:Int)+1<(M.s.length:Int):=by omega
  have h34:((34:UInt8).toNat:Int)=34:=rfl
  rw[if_pos ⟨g1,g2⟩] at hQ hends
  have hst:=H4 (T:=T) (p:=p) { M with k:=120 } i hs (show i+2<=M.s.length by omega)
  have hkk:=BA { M with k:=120 } i false (eb (M.s.drop (i+2)) (i+2) none [])
  change (ES { M with k:=120 } i).2.k=120/\(ES { M with k:=120 } i).2.s=M.s at hkk
  generalize ES { M with k:=120 } i=q at *
  obtain⟨⟨o,j⟩,N⟩:=q
  simp only at hst hkk hends hQ
  have ht:=m6 (T:=T) (p:=p) (Q:=Q) { N with v:=o } i j hends.1 (by rw[hkk.2];exact hends.2.1) (by rw[hkk.2];exact hs) [] hQ
  simp only[moB,moC,UU,Vc] at hst ht ⊢
  simp(disch:=try exact dI) only[hI,hI2,hi1I,g2,ag,h34,push_cast,seval]
  refine ae.lentK hst [0] rfl qsZ qsZ ?_
  refine zgZ ?_
  exact ht _
 rw[if_neg h2] at hQ hends
 have hx:(∃ b:Bool,decide ((c.toNat:Int)=120)=b/\(b=true->(i+1<M.s.length->∃ d,M.s[i+1]? = some d/\¬ (d.toNat:Int)=34))):=by
  refine⟨_,rfl,fun hb hl=>?_⟩
  have hb':c.toNat=120:=by have:=of_decide_eq_true hb;omega
  obtain⟨d,hd⟩:∃ d,M.s[i+1]? = some d:=⟨_,Uo hl⟩
  refine⟨d,hd,fun q=>h2 ⟨hb',?_⟩⟩
  rw[hd,US.1 (show d.toNat=(34:UInt8).toNat by have:(34:UInt8).toNat=34:=rfl;omega)]
 by_cases h3:aM c=true
 ·rw[if_pos h3] at hQ hends
  rw[h3] at hl
  simp only at hends hQ
  have ht:=fun X=>m6 (T:=T) (p:=p) (Q:=Q) { M with k:=119 } i (aN bA M.s (i+1)) hends.1 hends.2.1 hs X hQ
  have hw:=fun (K:AExit->St->Prop) (X:List (Nat×AV)) h=>N4 (T:=T) (p:=p) (Q:=K) M i (i+1) (.pv (.int .u8 (c.toNat:Int))) (by omega) hs X h
  simp only[moB,moC,UU,Vc] at hw ht ⊢
  by_cases hc2:c.toNat=120
  ·have hI2:((c.toNat:Int)=120)=True:=eq_true (by omega)
   by_cases hi1:i+1<M.s.length
   ·have hi1I:(i:Int)+1<(M.s.length:Int):=by omega
    obtain⟨b,hb,hbb⟩:=hx
    obtain⟨d,hd1,hd2⟩:=hbb (by rw[<- hb];exact decide_eq_true (by omega)) hi1
    simp(disch:=try exact dI) only[hI,hI2,hi1I,hd1,ag,hd2,push_cast,seval]
    refine ae.pure hl rfl ?_
    refine zgZ ?_
    refine hw _ _ (fun n=>?_) _
    refine zgZ ?_
    exact ht [] _
   ·have hi1I:¬ (i:Int)+1<(M.s.length:Int):=by omega
    simp(disch:=try exact dI) only[hI,hI2,hi1I,push_cast,seval]
    refine ae.pure hl rfl ?_
    refine zgZ ?_
    refine hw _ _ (fun n=>?_) _
    refine zgZ ?_
    exact ht [] _
  ·have hI2:¬ (c.toNat:Int)=120:=by omega
   simp(disch:=try exact dI) only[hI,hI2,push_cast,seval]
   refine ae.pure hl rfl ?_
   refine zgZ ?_
   refine hw _ _ (fun n=>?_) _
   refine zgZ ?_
   exact ht [] _
 rw[if_neg h3] at hQ hends
 have h3f:aM c=false:=by simpa using h3
 have hI2:¬ (c.toNat:Int)=120:=fun h=>by
  have:c=120:=US.1 (show c.toNat=120 by omega)
  subst this
  exact absurd h3f (by decide)
 rw[h3f] at hl
 by_cases h4:isD c=true\/(c.toNat=45/\(M.s[i+1]?.any isD)=true)
 ·rw[if_pos h4] at hQ hends
  simp only at hends hQ
  have ht:=fun X=>m6 (T:=T) (p:=p) (Q:=Q) { M with k:=110 } i (mL M.s (aN isD M.s (i+1))).1 hends.1 hends.2.1 hs X hQ
  have hw:=fun (K:AExit->St->Prop) (X:List (Nat×AV)) h=>RV (T:=T) (p:=p) (Q:=K) M i (i+1) (.pv (.int .u8 (c.toNat:Int))) (by omega) hs X h
  simp only[moB,moC,UU,Vc] at hw ht ⊢
  by_cases h5:isD c=true
  ·rw[h5] at hd
   simp(disch:=try exact dI) only[hI,hI2,push_cast,seval]
   refine ae.pure hl rfl ?_
   refine zgZ ?_
   refine ae.pure hd rfl ?_
   refine zgZ ?_
   refine hw _ _ (fun n=>?_) _
   refine zgZ ?_
   exact ht [] _
  ·have h5f:isD c=false:=by simpa using h5
   obtain⟨g1,g2⟩:=h4.resolve_left h5
   have hI45:((c.toNat:Int)=45)=True:=eq_true (by omega)
   rw[h5f] at hd
   cases hb:M.s[i+1]? with
   | none=>rw[hb] at g2;cases g2
   | some b=>
     rw[hb] at g2
     have hi1:i+1<M.s.length:=(Up.1 hb).1
     have hi1I:(i:Int)+1<(M.s.length:Int):=by omega
     have hd2:=toE (T:=T) (p:=p) (ec b)
     rw[show isD b=true from g2] at hd2
     simp(disch:=try exact dI) only[hI,hI2,push_cast,seval]
     refine ae.pure hl rfl ?_
     refine zgZ ?_
     refine ae.pure hd rfl ?_
     simp(disch:=try exact dI) only[hI45,hi1I,hb,ag,push_cast,seval]
     refine ae.pure hd2 rfl ?_
     refine zgZ ?_
     refine hw _ _ (fun n=>?_) _
     refine zgZ ?_
     exact ht [] _
 rw[if_neg h4] at hQ hends
 have h5f:isD c=false:=by
  cases h:isD c with
  | false=>rfl
  | true=>exact absurd (.inl h) h4
 rw[h5f] at hd
 have key:∀ (F:Prop),(decide ((c.toNat:Int)=45)=false->F)->(c.toNat=45->¬ i+1<M.s.length->F)->(c.toNat=45->∀ b,M.s[i+1]? = some b->isD b=false->F)->F:=by
  intro F f1 f2 f3
  by_cases h45:c.toNat=45
  ·by_cases hi1:i+1<M.s.length
   ·obtain⟨b,hb⟩:∃ b,M.s[i+1]? = some b:=⟨_,Uo hi1⟩
    refine f3 h45 b hb ?_
    cases hD:isD b with
    | false=>rfl
    | true=>exact absurd (.inr ⟨h45,by rw[hb];exact hD⟩) h4
   ·exact f2 h45 hi1
  ·exact f1 (decide_eq_false (by omega))
 by_cases h6:c.toNat=46/\M.s[i+1]? = some 46
 ·obtain⟨g1,g2⟩:=h6
  rw[if_pos ⟨g1,g2⟩] at hQ hends
  simp only at hends hQ
  have hi1:i+1<M.s.length:=(Up.1 g2).1
  have hi1I:(i:Int)+1<(M.s.length:Int):=by omega
  have h46:((46:UInt8).toNat:Int)=46:=rfl
  have hI45:¬ (c.toNat:Int)=45:=by omega
  have hI46:((c.toNat:Int)=46)=True:=eq_true (by omega)
  have ht:=m6 (T:=T) (p:=p) (Q:=Q) { M with k:=46 } i (i+2) hends.1 hends.2.1 hs [] hQ
  simp only[moB,moC,UU,Vc] at ht ⊢
  simp(disch:=try exact dI) only[hI,hI2,push_cast,seval]
  refine ae.pure hl rfl ?_
  refine zgZ ?_
  refine ae.pure hd rfl ?_
  simp(disch:=try exact dI) only[hI45,hI46,hi1I,g2,ag,h46,push_cast,seval]
  exact ht _
 rw[if_neg h6] at hQ hends
 have ht:=fun X=>m6 (T:=T) (p:=p) (Q:=Q) (if pi c=true then { M with k:=c.toNat } else cC M 13 i) i (i+1) (by omega) (by
  split
  ·exact hi
  ·rw[cj];exact hi) (by
  split
  ·exact hs
  ·rw[cj];exact hs) X (by
  by_cases hb:pi c=true
  ·rw[if_pos hb] at hQ ⊢;exact hQ
  ·rw[if_neg hb] at hQ ⊢;exact hQ)
 have hw:=fun (K:AExit->St->Prop) (X:List (Nat×AV)) h=>RB (T:=T) (p:=p) (Q:=K) M i (i+1) c hk h0 X h
 simp only[UU,Vc] at ht
 generalize hR:moB (if pi c=true then { M with k:=c.toNat } else cC M 13 i)=B at *
 simp only[moB,moC,UU,Vc] at hw ⊢
 have key2:∀ (F:Prop),(decide ((c.toNat:Int)=46)=false->F)->(c.toNat=46->¬ i+1<M.s.length->F)->(c.toNat=46->∀ b,M.s[i+1]? = some b->¬ (b.toNat:Int)=46->F)->F:=by
  intro F f1 f2 f3
  by_cases h46:c.toNat=46
  ·by_cases hi1:i+1<M.s.length
   ·obtain⟨b,hb⟩:∃ b,M.s[i+1]? = some b:=⟨_,Uo hi1⟩
    refine f3 h46 b hb fun q=>h6 ⟨h46,?_⟩
    rw[hb,US.1 (show b.toNat=(46:UInt8).toNat by have:(46:UInt8).toNat=46:=rfl;omega)]
   ·exact f2 h46 hi1
  ·exact f1 (decide_eq_false (by omega))
 refine key _ (fun k45=>?_) (fun k45 hi1=>?_) (fun k45 b hb hD=>?_)
 ·have hI45:¬ (c.toNat:Int)=45:=of_decide_eq_false k45
  refine key2 _ (fun k46=>?_) (fun k46 hi1=>?_) (fun k46 b hb hD=>?_)
  ·have hI46:¬ (c.toNat:Int)=46:=of_decide_eq_false k46
   simp(disch:=try exact dI) only[hI,hI2,push_cast,seval]
   refine ae.pure hl rfl ?_
   refine zgZ ?_
   refine ae.pure hd rfl ?_
   simp(disch:=try exact dI) only[hI45,hI46,push_cast,seval]
   refine hw _ _ (fun X n=>?_) _ (by omega)
   refine zgZ ?_
   exact ht _ _
  ·have hI46:((c.toNat:Int)=46)=True:=eq_true (by omega)
   have hi1I:¬ (i:Int)+1<(M.s.length:Int):=by omega
   simp(disch:=try exact dI) only[hI,hI2,push_cast,seval]
   refine ae.pure hl rfl ?_
   refine zgZ ?_
   refine ae.pure hd rfl ?_
   simp(disch:=try exact dI) only[hI45,hI46,hi1I,push_cast,seval]
   refine hw _ _ (fun X n=>?_) _ (by omega)
   refine zgZ ?_
   exact ht _ _
  ·have hI46:((c.toNat:Int)=46)=True:=eq_true (by omega)
   have hi1:i+1<M.s.length:=(Up.1 hb).1
   have hi1I:(i:Int)+1<(M.s.length:Int):=by omega
   simp(disch:=try exact dI) only[hI,hI2,push_cast,seval]
   refine ae.pure hl rfl ?_
   refine zgZ ?_
   refine ae.pure hd rfl ?_
   simp(disch:=try exact dI) only[hI45,hI46,hi1I,hb,ag,hD,push_cast,seval]
   refine hw _ _ (fun X n=>?_) _ (by omega)
   refine zgZ ?_
   exact ht _ _
 ·have hI45:((c.toNat:Int)=45)=True:=eq_true (by omega)
  have hI46:¬ (c.toNat:Int)=46:=by omega
  have hi1I:¬ (i:Int)+1<(M.s.length:Int):=by omega
  simp(disch:=try exact dI) only[hI,hI2,push_cast,seval]
  refine ae.pure hl rfl ?_
  refine zgZ ?_
  refine ae.pure hd rfl ?_
  simp(disch:=try exact dI) only[hI45,hi1I,hI46,push_cast,seval]
  refine hw _ _ (fun X n=>?_) _ (by omega)
  refine zgZ ?_
  exact ht _ _
 ·have hI45:((c.toNat:Int)=45)=True:=eq_true (by omega)
  have hI46:¬ (c.toNat:Int)=46:=by omega
  have hi1:i+1<M.s.length:=(Up.1 hb).1
  have hi1I:(i:Int)+1<(M.s.length:Int):=by omega
  have hd2:=toE (T:=T) (p:=p) (ec b)
  rw[hD] at hd2
  simp(disch:=try exact dI) only[hI,hI2,push_cast,seval]
  refine ae.pure hl rfl ?_
  refine zgZ ?_
  refine ae.pure hd rfl ?_
  simp(disch:=try exact dI) only[hI45,hi1I,hb,ag,push_cast,seval]
  refine ae.pure hd2 rfl ?_
  simp(disch:=try exact dI) only[hI46,push_cast,seval]
  refine hw _ _ (fun X n=>?_) _ (by omega)
  refine zgZ ?_
  exact ht _ _
theorem Jc (M:Mo)(hM:Nk M):aI Tryz.prog (bE T p) 1 53 [.ptr 0 0] [moB M] (.pv (.tup [])) [moB (nextM M)]:=by
 obtain⟨hs,hn⟩:=hM
 have hwm:=bI (q:=az) hn
 have hnc:=fun c=>Lt (M:=M) (c:=c)
 have hn0:=Lv (M:=M)
 have hclr:SF M = { M with nx:=aN az M.s M.nx,k:=0,p:=aN az M.s M.nx,x:=[],v:=[] }:=rfl
 obtain⟨w,hw⟩:∃ w,w=aN az M.s M.nx:=⟨_,rfl⟩
 rw[<- hw] at hnc hn0 hclr hwm
 refine aI.intro QT (by simp[F53]) ?_
 simp only[F53]
 generalize nextM M=MX at *
 simp only[moB,moC]
 refine zgZ ?_
 refine kL ([]) (fun _:Nat=>[]) (fun y=>[(0,.cells 95 true [.pv (.str M.s),.pv (.int .i64 (y:Int)),.pv (.int .u8 (M.k:Int)),.pv (.int .i64 (M.p:Int)),.pv (.str M.x),.pv (.str M.v),.pv (.int .i64 M.e),.pv (.int .i64 (M.bad:Int))])]) (fun y=>y<=M.s.length/\aN az M.s y=w) (fun y=>M.s.length - y) (M.nx) ([0]) (fun y=>y=w) ?_;intro e0 σ0 n0 h0;simp(disch:=try exact dI) only[push_cast,seval] at h0;obtain⟨rfl,rfl,rfl⟩:=h0;refine⟨?_,?_,?_,?_⟩
 ·exact qsZ
 ·exact⟨hn,hw.symm⟩
 ·rintro y ⟨hy,hyw⟩
  by_cases hlt:y<M.s.length
  ·obtain⟨b,hb⟩:∃ b,M.s[y]? = some b:=⟨_,Uo hlt⟩
   have hltI:(y:Int)<(M.s.length:Int):=by omega
   rw[eA hb] at hyw
   by_cases hB:az b=true
   ·rw[if_pos hB] at hyw
    have hc:b.toNat=32\/b.toNat=9\/b.toNat=13\/b.toNat=10:=by
     simpa[az,or_assoc] using hB
    rcases hc with hc | hc | hc | hc
    ·have a1:((b.toNat:Int)=32)=True:=eq_true (by omega)
     simp(disch:=try exact dI) only[tS,hltI,hb,ag,a1,push_cast,seval]
     exact⟨y+1,bu qsZ,⟨by omega,hyw⟩,by omega⟩
    ·have a1:¬ (b.toNat:Int)=32:=by omega
     have a2:((b.toNat:Int)=9)=True:=eq_true (by omega)
     simp(disch:=try exact dI) only[tS,hltI,hb,ag,a1,a2,push_cast,seval]
     exact⟨y+1,bu qsZ,⟨by omega,hyw⟩,by omega⟩
    ·have a1:¬ (b.toNat:Int)=32:=by omega
     have a2:¬ (b.toNat:Int)=9:=by omega
     have a3:¬ (b.toNat:Int)=10:=by omega
     have a4:((b.toNat:Int)=13)=True:=eq_true (by omega)
     simp(disch:=try exact dI) only[tS,hltI,hb,ag,a1,a2,a3,a4,push_cast,seval]
     exact⟨y+1,bu qsZ,⟨by omega,hyw⟩,by omega⟩
    ·have a1:¬ (b.toNat:Int)=32:=by omega
     have a2:¬ (b.toNat:Int)=9:=by omega
     have a3:((b.toNat:Int)=10)=True:=eq_true (by omega)
     simp(disch:=try exact dI) only[tS,hltI,hb,ag,a1,a2,a3,push_cast,seval]
     exact⟨y+1,bu qsZ,⟨by omega,hyw⟩,by omega⟩
   ·rw[if_neg hB] at hyw
    have hc:¬ b.toNat=32/\¬ b.toNat=9/\¬ b.toNat=13/\¬ b.toNat=10:=by
     simpa[az,not_or,and_assoc] using hB
    have a1:¬ (b.toNat:Int)=32:=by omega
    have a2:¬ (b.toNat:Int)=9:=by omega
    have a3:¬ (b.toNat:Int)=10:=by omega
    have a4:¬ (b.toNat:Int)=13:=by omega
    simp(disch:=try exact dI) only[tS,hltI,hb,ag,a1,a2,a3,a4,push_cast,seval]
    exact⟨y,hyw,qsZ⟩
  ·have hltI:¬ (y:Int)<(M.s.length:Int):=by omega
   rw[gM (by omega)] at hyw
   simp(disch:=try exact dI) only[tS,hltI,push_cast,seval]
   exact⟨y,hyw,qsZ⟩
 intro y hy s1 hs1;simp(disch:=try exact dI) only[push_cast,seval] at hs1;subst hs1
 subst hy
 by_cases hlt:y<M.s.length
 ·have hltI:(y:Int)<(M.s.length:Int):=by omega
  have hgeI:¬ (M.s.length:Int)<=(y:Int):=by omega
  obtain⟨c,hc⟩:∃ c,M.s[y]? = some c:=⟨_,Uo hlt⟩
  by_cases h0:M.e=0
  ·have h0I:(M.e=0)=True:=eq_true h0
   rw[hnc c h0 hc,hclr]
   have hlx:=fun (Q:AExit->St->Prop) h=>R7 (T:=T) (p:=p) (Q:=Q) { M with nx:=y,k:=0,p:=y,x:=[],v:=[] } y c hc hs rfl h0 h
   generalize lz (gX (rJ { M with nx:=y,k:=0,p:=y,x:=[],v:=[] } y c) y) y=N at *
   simp only[moB,moC,UU,Vc] at hlx ⊢
   simp(disch:=try exact dI) only[hgeI,h0I,hltI,hc,ag,push_cast,seval]
   refine hlx _ ⟨fun e n=>?_,fun e n m c hm=>?_,fun e n m c hm=>?_⟩ _ (by omega)
   ·refine zgZ ?_
    exact am [] qsZ
   ·refine zgZ ?_
    exact am [] (by simp(disch:=try exact dI) only[hm,push_cast,seval])
   ·refine zgZ ?_
    exact am [] (by simp(disch:=try exact dI) only[hm,push_cast,seval])
  ·rw[hn0 (.inl h0),hclr]
   simp only[moB,moC]
   simp(disch:=try exact dI) only[hgeI,h0,push_cast,seval]
   exact am [] qsZ
 ·have hgeI:(M.s.length:Int)<=(y:Int):=by omega
  rw[hn0 (.inr (UN (by omega))),hclr]
  simp only[moB,moC]
  simp(disch:=try exact dI) only[hgeI,push_cast,seval]
  exact am [] qsZ
end
def Ji (M:Mo):Nat:=if M.e=0 then M.s.length+1 - M.p else 0
section
variable {T:Nat}{p:PV}
theorem Rz (s:List UInt8)(hs:s.length<=500):au Tryz.prog (bE T p) 25 [.str s] (.tup [.list ((rS s).1.map PV.str),.bool (decide ((rS s).2.e=0))]):=by
 have hM0:=B9 (s:=s) (by omega)
 have h0:=Jc (T:=T) (p:=p) (mo0 s) hM0
 have hM1:=ow hM0
 obtain⟨Z,hZ⟩:∃ Z,Z=rS s:=⟨_,rfl⟩
 rw[<- hZ]
 unfold rS at hZ
 have hs1:(nextM (mo0 s)).s=s:=gP (mo0 s)
 generalize nextM (mo0 s)=M1 at *
 simp only[moB,moC,mo0] at h0
 refine au.intro Q25.2 (by simp[Q25]) ?_
 simp(disch:=try exact dI) only[Q25,push_cast,seval]
 refine ae.lentK h0 [0] rfl qsZ qsZ ?_
 refine zgZ ?_
 refine aK ([(2,0,9,1)]) (fun y:List (List UInt8)×Mo=>[(2,.olist 0 1 (y.1.map PV.str))]) (fun y=>[(1,moB y.2)]) (fun y=>OkM y.2/\y.2.s=s/\y.1.length+Ji y.2<=s.length+1/\∃ k,Ji y.2<k/\Z=EO k y.1 y.2) (fun y=>Ji y.2) (([],M1)) ?_;intro e0 σ0 n0 h0;simp(disch:=try exact dI) only[push_cast,seval] at h0;obtain⟨rfl,rfl,rfl⟩:=h0;refine⟨?_,?_,?_⟩
 ·simp(disch:=try exact dI) only[moB,moC,push_cast,seval]
 ·refine⟨hM1,hs1,?_,s.length+2,?_,hZ⟩
  ·simp only[List.length_nil,Ji,hs1];split<;>omega
  ·simp only[Ji,hs1];split<;>omega
 rintro⟨l,M⟩ ⟨h1,h2,h3,k,hk,hZk⟩
 simp only at h1 h2 h3 hk hZk
 by_cases he:M.e=0
 rotate_left
 ·rw[rT (fun q=>he q.1)] at hZk
  subst hZk
  simp(disch:=try exact dI) only[moB,moC,he,push_cast,seval]
 have heI:(M.e=0)=True:=eq_true he
 by_cases hk0:M.k=0
 ·rw[rT (fun q=>q.2 hk0)] at hZk
  subst hZk
  have hkI:((M.k:Int)=0)=True:=eq_true (by omega)
  simp(disch:=try exact dI) only[moB,moC,heI,hkI,push_cast,seval]
 ·have hkI:¬ (M.k:Int)=0:=by omega
  obtain⟨k,rfl⟩:∃ j,k=j+1:=⟨k - 1,by omega⟩
  rw[As ⟨he,hk0⟩] at hZk
  have hn:=Jc (T:=T) (p:=p) M h1.1
  obtain⟨g1,g2⟩:=m8 h1
  have hp:=(h1.2.2 he).1
  have hb:=h1.1.2
  have hm:Ji (nextM M)<Ji M:=by
   unfold Ji
   rw[if_pos he]
   split
   ·rename_i e0
    have:=g2 e0 hk0
    rw[g1.2.1]
    omega
   ·omega
  have hl:l.length<=600:=by omega
  have hmp:(l++[M.x]).map PV.str=l.map PV.str++[.str M.x]:=by simp
  have hs2:=g1.2.1.trans h2
  have hbs:=MV M.x
  have ho2:=g1.1
  generalize nextM M=M2 at *
  simp only[moB,moC] at hn
  simp(disch:=try exact dI) only[moB,moC,heI,hkI,hbs,push_cast,seval]
  refine ae.lentK hn [1] rfl qsZ qsZ ?_
  refine zgZ ?_
  exact⟨(l++[M.x],M2),bu (by simp(disch:=try exact dI) only[moB,moC,hmp,push_cast,seval]),⟨ho2,hs2,by simp only[List.length_append,List.length_singleton];omega,k,by simp only;omega,hZk⟩,by simp only;omega⟩
end
