/- A part. -/
import Derived.Test.YtamoeblcphjbaaaGreatDoorBlLZ4c
set_option linter.unusedVariables false
set_option linter.unusedSimpArgs false
set_option maxHeartbeats 16000000
set_option maxRecDepth 100000
open List renaming getElem?_eq_getElem->Uo,drop_eq_nil_of_le->U1,getElem?_eq_none->UN,length->Vl,length_cons->Ut,length_nil->Ux,length_append->Us
open UInt8 renaming toNat_inj->US
namespace Go.Proofs.YtamoeblcphjbaaaGreatDoor
open Go Go.Ab
attribute [local irreducible] vc
theorem lN {c:UInt8}{d:Nat}(h:eP c=some d):mO c=(d:Int):=by unfold mO;rw[h]
theorem lO {c:UInt8}(h:eP c=none):mO c = -1:=by unfold mO;rw[h]
theorem uL (s:List UInt8)(a:Nat)(hs:s.length<=65536)(ha:a<=65540):au Tryz.prog aH 181 [.str s,.int .i64 (a:Int)] (.tup [.int .i64 ((cp s a).1:Int),.int .i64 ((cp s a).2:Int)]):=by
 have hhx:=Jn
 refine au.intro QO.2 (by simp[QO]) ?_
 by_cases hal:a<s.length
 ·have halI:(a:Int)<(s.length:Int):=by omega
  obtain⟨c,hc⟩:∃ c,s[a]? = some c:=⟨_,Uo hal⟩
  by_cases h123:c=123
  ·subst h123
   have hcI:((123:UInt8).toNat:Int)=123:=rfl
   obtain⟨Z,hZ⟩:∃ Z,ptL 6 0 (a+1) (s.drop (a+1))=Z:=⟨_,rfl⟩
   unfold cp
   rw[if_pos hc,hZ]
   simp(disch:=try exact dI) only[QO,halI,hc,ag,hcI,push_cast,seval]
   refine aK ([]) (fun y:Nat×Nat=>[(4,.pv (.int .i64 (y.1:Int))),(6,.pv (.int .i64 (y.2:Int)))]) (fun _=>[]) (fun y=>a+1<=y.2/\y.2<=a+7/\y.2<=s.length/\ptL (a+7 - y.2) y.1 y.2 (s.drop y.2)=Z/\y.1+1<=16 ^ (y.2 - (a+1))) (fun y=>a+7 - y.2) ((0,a+1)) ?_;intro e0 σ0 n0 h0;simp(disch:=try exact dI) only[push_cast,seval] at h0;obtain⟨rfl,rfl,rfl⟩:=h0;refine⟨?_,?_,?_⟩
   ·exact qsZ
   ·exact⟨Nat.le_refl _,by simp only;omega,by simp only;omega,by simp only;rw[show a+7 - (a+1)=6 by omega];exact hZ,by simp⟩
   ·rintro⟨n,i⟩ ⟨h1,h2,h3,h4,h5⟩
    simp only at h1 h2 h3 h4 h5
    have hpw:16 ^ (i - (a+1))<=16 ^ 6:=Nat.pow_le_pow_right (by omega) (by omega)
    have hn6:n+1<=16777216:=Nat.le_trans h5 hpw
    by_cases hil:i<s.length
    ·have hilI:(i:Int)<(s.length:Int):=by omega
     obtain⟨b,hb⟩:∃ b,s[i]? = some b:=⟨_,Uo hil⟩
     have hx:=hhx b
     by_cases hi7:i<a+7
     ·have hi7I:(i:Int)<(a:Int)+7:=by omega
      rw[aU hb,show a+7 - i=(a+6 - i)+1 by omega,uJ] at h4
      cases hd:eP b with
      | some d=>
        rw[hd] at h4
        rw[lN hd] at hx
        have hd16:=gS hd
        have hd0:(0:Int)<=(d:Int):=by omega
        simp(disch:=try exact dI) only[hilI,hi7I,hb,ag,push_cast,seval]
        refine ae.pure hx rfl ?_
        simp(disch:=try exact dI) only[hd0,hb,ag,push_cast,seval]
        refine ae.pure hx rfl ?_
        refine zgZ ?_
        refine⟨(16*n+d,i+1),bu qsZ,⟨by simp only;omega,by simp only;omega,by simp only;omega,by simp only;rw[show a+7 - (i+1)=a+6 - i by omega];exact h4,?_⟩,by simp only;omega⟩
        simp only
        rw[show i+1 - (a+1)=(i - (a+1))+1 by omega,Nat.pow_succ]
        omega
      | none=>
        rw[hd] at h4
        rw[lO hd] at hx
        subst h4
        simp(disch:=try exact dI) only[hilI,hi7I,hb,ag,push_cast,seval]
        refine ae.pure hx rfl ?_
        refine zgZ ?_
        by_cases h0:i=a+1
        ·have h0I:(i:Int)=(a:Int)+1:=by omega
         rw[if_pos (.inl h0)]
         simp(disch:=try exact dI) only[h0I,push_cast,seval]
        ·have h0I:¬ (i:Int)=(a:Int)+1:=by omega
         by_cases h125:b=125
         ·subst h125
          have hcI2:((125:UInt8).toNat:Int)=125:=rfl
          rw[if_neg (fun q=>q.elim h0 fun q=>q rfl)]
          simp(disch:=try exact dI) only[h0I,hilI,hb,ag,hcI2,push_cast,seval]
         ·have hcI2:¬ (b.toNat:Int)=125:=fun h=>h125 (US.1 (by simpa using (show b.toNat=125 by omega)))
          rw[if_pos (.inr (fun q=>h125 (Option.some.inj q)))]
          simp(disch:=try exact dI) only[h0I,hilI,hb,ag,hcI2,push_cast,seval]
     ·have hi7I:¬ (i:Int)<(a:Int)+7:=by omega
      rw[show a+7 - i=0 by omega,ot] at h4
      subst h4
      simp(disch:=try exact dI) only[hilI,hi7I,hb,ag,push_cast,seval]
      by_cases h0:i=a+1
      ·exact absurd h0 (by omega)
      ·have h0I:¬ (i:Int)=(a:Int)+1:=by omega
       by_cases h125:b=125
       ·subst h125
        have hcI2:((125:UInt8).toNat:Int)=125:=rfl
        rw[if_neg (fun q=>q.elim h0 fun q=>q rfl)]
        simp(disch:=try exact dI) only[h0I,hilI,hb,ag,hcI2,push_cast,seval]
       ·have hcI2:¬ (b.toNat:Int)=125:=fun h=>h125 (US.1 (by simpa using (show b.toNat=125 by omega)))
        rw[if_pos (.inr (fun q=>h125 (Option.some.inj q)))]
        simp(disch:=try exact dI) only[h0I,hilI,hb,ag,hcI2,push_cast,seval]
    ·have hilI:¬ (i:Int)<(s.length:Int):=by omega
     rw[U1 (by omega),La] at h4
     subst h4
     simp(disch:=try exact dI) only[hilI,push_cast,seval]
     by_cases h0:i=a+1
     ·have h0I:(i:Int)=(a:Int)+1:=by omega
      rw[if_pos (.inl h0)]
      simp(disch:=try exact dI) only[h0I,push_cast,seval]
     ·have h0I:¬ (i:Int)=(a:Int)+1:=by omega
      rw[if_pos (.inr (by rw[UN (by omega)];intro q;cases q))]
      simp(disch:=try exact dI) only[h0I,hilI,push_cast,seval]
  ·have hcI:¬ (c.toNat:Int)=123:=fun h=>h123 (US.1 (by simpa using (show c.toNat=123 by omega)))
   rw[show cp s a=(0,0) by unfold cp;rw[if_neg (by rw[hc];intro q;exact h123 (Option.some.inj q))]]
   simp(disch:=try exact dI) only[QO,halI,hc,ag,hcI,push_cast,seval]
 ·have halI:¬ (a:Int)<(s.length:Int):=by omega
  rw[show cp s a=(0,0) by unfold cp;rw[if_neg (by rw[UN (by omega)];intro q;cases q)]]
  simp(disch:=try exact dI) only[QO,halI,push_cast,seval]
theorem nO:∀ {s a b:List UInt8},fB 125 s=some (a,b)->∀ c∈a,c≠125
 | [],a,b,h=>by simp[fB] at h
 | c::r,a,b,h=>by
   rw[fB] at h
   split at h
   ·cases h;exact fun c hc=>by cases hc
   ·rename_i hc
    cases hq:fB 125 r with
    | none=>rw[hq] at h;cases h
    | some q=>
      rw[hq] at h
      obtain⟨a',b'⟩:=q
      simp only[Option.map_some,Option.some.injEq,Prod.mk.injEq] at h
      obtain⟨rfl,rfl⟩:=h
      intro x hx
      rcases List.mem_cons.1 hx with rfl | hx
      ·exact hc
      ·exact nO hq x hx
theorem vF:∀ (Q:List UInt8) (n:Nat) (c:UInt8) (R:List UInt8),eP c=none->jv n (Q++c::R)=none
 | [],n,c,R,h=>by rw[List.nil_append,jv,h]
 | b::Q,n,c,R,h=>by
   rw[List.cons_append,jv]
   cases eP b with
   | none=>rfl
   | some d=>exact vF Q _ c R h
theorem Hi:eP 125=none:=by decide
def NM (s:List UInt8)(a:Nat):(List UInt8×Nat)×Int:=
 if (cp s a).2=0 then (([],0),13) else match eC (cp s a).1 with
  | none=>(([],0),16)
  | some t=>((t,(cp s a).2 - a+1),0)
theorem BI {s:List UInt8}{a:Nat}(h:s[a]? = some 123):zz (s.drop (a+1))=NM s a:=by
 obtain⟨Q,R,h1,h2,h3,h4,h5,h6⟩:=ou 6 0 (a+1) (s.drop (a+1))
 have hPM:cp s a=if (ptL 6 0 (a+1) (s.drop (a+1))).2=a+1\/s[(ptL 6 0 (a+1) (s.drop (a+1))).2]?≠some 125 then (0,0) else ((ptL 6 0 (a+1) (s.drop (a+1))).1,(ptL 6 0 (a+1) (s.drop (a+1))).2+1):=by
  unfold cp;rw[if_pos h]
 unfold NM
 generalize ptL 6 0 (a+1) (s.drop (a+1))=Z at *
 have hi:s[Z.2]? = R.head?:=by
  rw[h4,<- List.getElem?_drop,h1]
  cases R with
  | nil=>simp
  | cons c R=>simp
 have hQ:∀ c∈Q,c≠125:=fun c hc e=>by
  have:=h5 c hc
  rw[e,Hi] at this;cases this
 rw[h1]
 by_cases hR:R.head? = some 125
 ·obtain⟨R',rfl⟩:∃ R',R=125::R':=by
   cases R with
   | nil=>cases hR
   | cons c R=>exact⟨R,by rw[Option.some.inj hR]⟩
  unfold zz
  rw[oZ Q R' hQ]
  simp only
  by_cases h0:Q.length=0
  ·rw[if_pos (show Z.2=a+1\/s[Z.2]?≠some 125 from .inl (by omega))] at hPM
   rw[if_pos (.inl (by omega)),hPM]
   rfl
  ·rw[if_neg (show ¬ (Z.2=a+1\/s[Z.2]?≠some 125) from fun q=>q.elim (fun q=>h0 (by omega)) fun q=>q (by rw[hi];rfl))] at hPM
   rw[if_neg (by omega),hPM,h3]
   simp only
   rw[if_neg (by omega)]
   cases eC Z.1 with
   | none=>rfl
   | some t=>
     simp only
     rw[show Q.length+3=Z.2+1 - a+1 by omega]
 ·rw[if_pos (show Z.2=a+1\/s[Z.2]?≠some 125 from .inr (by rw[hi];exact hR))] at hPM
  rw[hPM,if_pos rfl]
  unfold zz
  cases hq:fB 125 (Q++R) with
  | none=>rfl
  | some q=>
    obtain⟨q1,q2⟩:=q
    simp only
    by_cases hl:q1.length<1\/6<q1.length
    ·rw[if_pos hl]
    ·rw[if_neg hl]
     have he:=(eL 0 hq).2
     have hnone:jv 0 q1=none:=by
      have hn:=nO hq
      have hlt:Q.length<q1.length:=by
       rcases Nat.lt_or_ge Q.length q1.length with hh | hh
       ·exact hh
       ·exfalso
        have hg:(Q++R)[q1.length]? = some 125:=by rw[he];simp
        rcases Nat.lt_or_ge q1.length Q.length with h' | h'
        ·rw[List.getElem?_append_left h'] at hg
         exact hQ _ (List.mem_of_getElem? hg) rfl
        ·have e:q1.length=Q.length:=by omega
         rw[e,List.getElem?_append_right (Nat.le_refl _),Nat.sub_self] at hg
         exact hR (by rw[List.head?_eq_getElem?];exact hg)
      obtain⟨c,R',rfl⟩:∃ c R',R=c::R':=by
       cases R with
       | nil=>
         exfalso
         have:=congrArg Vl he
         simp at this;omega
       | cons c R=>exact⟨c,R,rfl⟩
      have hc:eP c=none:=by
       rcases h6 with h6 | h6
       ·omega
       ·exact h6 c rfl
      obtain⟨m,hm⟩:∃ m,q1.length=Q.length+(m+1):=⟨q1.length - Q.length - 1,by omega⟩
      have:q1=Q++c::R'.take m:=by
       have ht:(Q++c::R').take q1.length=q1:=by rw[he,List.take_left]
       rw[hm,List.take_append,List.take_of_length_le (by omega),Nat.add_sub_cancel_left,List.take_succ_cons] at ht
       exact ht.symm
      rw[this]
      exact vF Q 0 c _ hc
     rw[hnone]
def dt (M:Mo)(a:Nat)(v:Bool):Sc->(List UInt8×Nat)×Mo
 | .short=>(([],M.s.length),cC M 4 a)
 | .bad j e=>(([],M.s.length),cC M e j)
 | .done out j=>((out,j),if v=true/\Lib.validD out=false then cC M 16 a else M)
def EP (M:Mo)(a:Nat):(List UInt8×Nat)×Mo:=dt M a true (ia (M.s.length+1) (M.s.drop (a+1)) (a+1) [])
theorem cj (M:Mo)(e:Int)(i:Nat):(cC M e i).s=M.s:=by unfold cC;split<;>rfl
theorem PP {s:List UInt8}{i:Nat}{d:UInt8}(h:s[i+1]? = some d)(hk:oS d=none):eQ (s.drop (i+1))=if d=117 then NM s (i+2) else (([],0),13):=by
 rw[aU h]
 unfold eQ
 simp only[hk]
 by_cases h2:s[i+2]? = some 123
 ·rw[aU h2]
  by_cases hd:d=117
  ·subst hd
   rw[if_pos (by simp[fD]),if_pos rfl,<- BI h2]
   rfl
  ·rw[if_neg (by simp[fD,Ne.symm hd];exact hd),if_neg hd]
 ·have hp:fD [117,123] (d::s.drop (i+1+1))=false:=by
   unfold fD
   rw[decide_eq_false]
   rintro⟨q1,q2⟩
   cases hr:s.drop (i+1+1) with
   | nil=>rw[hr] at q1;simp at q1
   | cons b r=>
     rw[hr] at q1
     simp only[Ut,Ux,List.take_succ_cons,List.take_zero,List.cons.injEq,and_true] at q1
     have hb:s[i+2]? = some b:=by
      have:=congrArg (·[0]?) hr
      simpa using this
     exact h2 (by rw[hb,q1.2])
  rw[hp,if_neg (by decide)]
  have hz:NM s (i+2)=(([],0),13):=by
   unfold NM cp
   rw[if_neg h2]
   rfl
  rw[hz]
  split<;>rfl
theorem BJ (s:List UInt8)(a:Nat):(cp s a).2=0\/(a+3<=(cp s a).2/\(cp s a).2<=s.length):=by
 unfold cp
 split
 ·obtain⟨Q,R,h1,h2,h3,h4,h5,h6⟩:=ou 6 0 (a+1) (s.drop (a+1))
  split
  ·exact .inl rfl
  ·rename_i hn
   refine .inr ⟨?_,?_⟩
   ·simp only
    have:(ptL 6 0 (a+1) (s.drop (a+1))).2≠a+1:=fun e=>hn (.inl e)
    omega
   ·simp only
    rcases Nat.lt_or_ge (ptL 6 0 (a+1) (s.drop (a+1))).2 s.length with h | h
    ·omega
    ·exact absurd (.inr (by rw[UN h];intro q;cases q)) hn
 ·exact .inl rfl
section
variable {T:Nat}{p:PV}
theorem Oh (M:Mo)(a:Nat)(hs:M.s.length<=65536)(ha:a<M.s.length):aI Tryz.prog (bE T p) 1 109 [.ptr 0 0,.pv (.int .i64 (a:Int))] [moB M] (.pv (.tup [.str (EP M a).1.1,.int .i64 ((EP M a).1.2:Int)])) [moB (EP M a).2]:=by
 have hf:=fun i e=>vS (T:=T) (p:=p) M i e
 unfold EP
 obtain⟨Z,hZ⟩:∃ Z,Z=ia (M.s.length+1) (M.s.drop (a+1)) (a+1) []:=⟨_,rfl⟩
 rw[<- hZ]
 refine aI.intro Tv.2 (by simp[Tv]) ?_
 simp(disch:=try exact dI) only[Tv,moB,moC,push_cast,seval]
 refine aK ([(6,0,5,1)]) (fun y:Nat×List UInt8=>[(6,.olist 1 1 (aC y.2)),(7,.pv (.int .i64 (y.1:Int)))]) (fun _=>[]) (fun y=>y.1<=M.s.length/\y.2.length<=4*y.1/\∃ f,M.s.length<f+y.1/\Z=ia f (M.s.drop y.1) y.1 y.2) (fun y=>M.s.length - y.1) ((a+1,[])) ?_;intro e0 σ0 n0 h0;simp(disch:=try exact dI) only[push_cast,seval] at h0;obtain⟨rfl,rfl,rfl⟩:=h0;refine⟨?_,?_,?_⟩
 ·refine zgZ ?_
  exact .refl _
 ·exact⟨by simp only;omega,by simp,M.s.length+1,by simp only;omega,hZ⟩
 rintro⟨j,out⟩ ⟨hj,ho,f,hfj,hZj⟩
 simp only at hj ho hfj hZj
 obtain⟨f,rfl⟩:∃ g,f=g+1:=⟨f - 1,by omega⟩
 by_cases hlt:j<M.s.length
 ·obtain⟨c,hc⟩:∃ c,M.s[j]? = some c:=⟨_,Uo hlt⟩
  have hltI:(j:Int)<(M.s.length:Int):=by omega
  have hu8:=ii out
  rw[aU hc] at hZj
  by_cases h34:c.toNat=34
  ·have h34I:((c.toNat:Int)=34)=True:=eq_true (by omega)
   rw[fJ h34] at hZj
   subst hZj
   have k2:=toE (T:=T) (p:=p) (nX out)
   simp only[dt]
   cases hv:Lib.validD out with
   | true=>
     rw[hv] at k2
     rw[if_neg (fun h=>by cases h.2)]
     simp(disch:=try exact dI) only[hltI,hc,ag,h34I,aC,push_cast,seval]
     refine ae.pure k2 rfl ?_
     refine zgZ ?_
     exact am [] qsZ
   | false=>
     rw[hv] at k2
     rw[if_pos (by simp)]
     have hfa:=hf a 16
     simp only[moB,moC] at hfa
     simp(disch:=try exact dI) only[hltI,hc,ag,h34I,aC,push_cast,seval]
     refine ae.pure k2 rfl ?_
     refine zgZ ?_
     refine ae.lentK hfa [0] rfl qsZ qsZ ?_
     refine zgZ ?_
     exact am [] qsZ
  have h34I:¬ (c.toNat:Int)=34:=by omega
  by_cases hbd:c.toNat<32\/c.toNat=127
  ·rw[eU h34 hbd] at hZj
   subst hZj
   have hfa:=hf j 6
   simp only[moB,moC] at hfa
   by_cases h32:c.toNat<32
   ·have h32I:(c.toNat:Int)<32:=by omega
    simp(disch:=try exact dI) only[hltI,hc,ag,h34I,h32I,push_cast,seval]
    refine ae.lentK hfa [0] rfl qsZ qsZ ?_
    refine zgZ ?_
    exact am [] (by simp(disch:=try exact dI) only[dt,cj,push_cast,seval])
   ·have h32I:¬ (c.toNat:Int)<32:=by omega
    have h127:((c.toNat:Int)=127)=True:=eq_true (by omega)
    simp(disch:=try exact dI) only[hltI,hc,ag,h34I,h32I,h127,push_cast,seval]
    refine ae.lentK hfa [0] rfl qsZ qsZ ?_
    refine zgZ ?_
    exact am [] (by simp(disch:=try exact dI) only[dt,cj,push_cast,seval])
  have h32I:¬ (c.toNat:Int)<32:=by omega
  have h127I:¬ (c.toNat:Int)=127:=by omega
  by_cases h92:c.toNat=92
  ·have h92I:((c.toNat:Int)=92)=True:=eq_true (by omega)
   have hbl:=dX out
   by_cases hl1:j+1<M.s.length
   ·have hl1I:(j:Int)+1<(M.s.length:Int):=by omega
    obtain⟨d,hd⟩:∃ d,M.s[j+1]? = some d:=⟨_,Uo hl1⟩
    have hne:M.s.drop (j+1)≠[]:=by
     intro h
     have:=congrArg Vl h
     simp at this;omega
    rw[d7 h92 hne] at hZj
    have hf4:(M.s.drop (j+1)).drop 1=M.s.drop (j+2):=by rw[List.drop_drop]
    by_cases dv:d.toNat=34
    ·have dvI:(d.toNat:Int)=34:=by omega
     rw[show eQ (M.s.drop (j+1))=(([34],1),0) by rw[aU hd];exact iS (by simp[oS,dv])] at hZj
     simp only[if_true] at hZj
     rw[hf4] at hZj
     have hB:aC (out++[34])=aC out++[.int .u8 34]:=by rw[cB];rfl
     generalize hQ:aC out=Q at *
     simp(disch:=try exact dI) only[hltI,hc,ag,h34I,h32I,h127I,h92I,hl1I,hd,dvI,push_cast,seval]
     exact⟨(j+2,out++[34]),bu (by simp(disch:=try exact dI) only[hB,push_cast,seval]),⟨by simp only;omega,by simp only[Us,Ut,Ux];omega,f,by simp only;omega,hZj⟩,by simp only;omega⟩
    have d34:=dv
    have d34I:¬ (d.toNat:Int)=34:=by omega
    clear dv
    by_cases dv:d.toNat=92
    ·have dvI:(d.toNat:Int)=92:=by omega
     rw[show eQ (M.s.drop (j+1))=(([92],1),0) by rw[aU hd];exact iS (by simp[oS,d34,dv])] at hZj
     simp only[if_true] at hZj
     rw[hf4] at hZj
     have hB:aC (out++[92])=aC out++[.int .u8 92]:=by rw[cB];rfl
     generalize hQ:aC out=Q at *
     simp(disch:=try exact dI) only[hltI,hc,ag,h34I,h32I,h127I,h92I,hl1I,hd,dvI,push_cast,seval]
     exact⟨(j+2,out++[92]),bu (by simp(disch:=try exact dI) only[hB,push_cast,seval]),⟨by simp only;omega,by simp only[Us,Ut,Ux];omega,f,by simp only;omega,hZj⟩,by simp only;omega⟩
    have d92:=dv
    have d92I:¬ (d.toNat:Int)=92:=by omega
    clear dv
    by_cases dv:d.toNat=110
    ·have dvI:(d.toNat:Int)=110:=by omega
     rw[show eQ (M.s.drop (j+1))=(([10],1),0) by rw[aU hd];exact iS (by simp[oS,d34,d92,dv])] at hZj
     simp only[if_true] at hZj
     rw[hf4] at hZj
     have hB:aC (out++[10])=aC out++[.int .u8 10]:=by rw[cB];rfl
     generalize hQ:aC out=Q at *
     simp(disch:=try exact dI) only[hltI,hc,ag,h34I,h32I,h127I,h92I,hl1I,hd,dvI,push_cast,seval]
     exact⟨(j+2,out++[10]),bu (by simp(disch:=try exact dI) only[hB,push_cast,seval]),⟨by simp only;omega,by simp only[Us,Ut,Ux];omega,f,by simp only;omega,hZj⟩,by simp only;omega⟩
    have d110:=dv
    have d110I:¬ (d.toNat:Int)=110:=by omega
    clear dv
    by_cases dv:d.toNat=114
    ·have dvI:(d.toNat:Int)=114:=by omega
     rw[show eQ (M.s.drop (j+1))=(([13],1),0) by rw[aU hd];exact iS (by simp[oS,d34,d92,d110,dv])] at hZj
     simp only[if_true] at hZj
     rw[hf4] at hZj
     have hB:aC (out++[13])=aC out++[.int .u8 13]:=by rw[cB];rfl
     generalize hQ:aC out=Q at *
     simp(disch:=try exact dI) only[hltI,hc,ag,h34I,h32I,h127I,h92I,hl1I,hd,dvI,push_cast,seval]
     exact⟨(j+2,out++[13]),bu (by simp(disch:=try exact dI) only[hB,push_cast,seval]),⟨by simp only;omega,by simp only[Us,Ut,Ux];omega,f,by simp only;omega,hZj⟩,by simp only;omega⟩
    have d114:=dv
    have d114I:¬ (d.toNat:Int)=114:=by omega
    clear dv
    by_cases dv:d.toNat=116
    ·have dvI:(d.toNat:Int)=116:=by omega
     rw[show eQ (M.s.drop (j+1))=(([9],1),0) by rw[aU hd];exact iS (by simp[oS,d34,d92,d110,d114,dv])] at hZj
     simp only[if_true] at hZj
     rw[hf4] at hZj
     have hB:aC (out++[9])=aC out++[.int .u8 9]:=by rw[cB];rfl
     generalize hQ:aC out=Q at *
     simp(disch:=try exact dI) only[hltI,hc,ag,h34I,h32I,h127I,h92I,hl1I,hd,dvI,push_cast,seval]
     exact⟨(j+2,out++[9]),bu (by simp(disch:=try exact dI) only[hB,push_cast,seval]),⟨by simp only;omega,by simp only[Us,Ut,Ux];omega,f,by simp only;omega,hZj⟩,by simp only;omega⟩
    have d116:=dv
    have d116I:¬ (d.toNat:Int)=116:=by omega
    clear dv
    have hk:oS d=none:=by simp[oS,d34,d92,d110,d114,d116]
    have hpt:=toE (T:=T) (p:=p) (uL M.s (j+2) hs (by omega))
    have hple:=BJ M.s (j+2)
    rw[PP hd hk] at hZj
    have hnl:¬ (M.s.length:Int)<=(j:Int)+1:=by omega
    have hbad:∀ e:Int,Z = .bad j e->dt M a true Z=(([],M.s.length),cC M e j):=fun e he=>by rw[he];rfl
    by_cases d117:d=117
    ·subst d117
     rw[if_pos rfl] at hZj
     unfold NM at hZj
     generalize cp M.s (j+2)=P at *
     obtain⟨n,b⟩:=P
     simp only at hZj hpt hple
     have hdI:((117:UInt8).toNat:Int)=117:=rfl
     by_cases hb0:b=0
     ·subst hb0
      rw[if_pos rfl,if_neg (by decide)] at hZj
      rw[hbad 13 hZj]
      have hfa:=hf j 13
      simp only[moB,moC] at hfa
      generalize hQ:aC out=Q at *
      simp(disch:=try exact dI) only[hltI,hc,ag,h34I,h32I,h127I,h92I,hl1I,hd,hdI,push_cast,seval]
      refine ae.pure hpt rfl ?_
      simp(disch:=try exact dI) only[hnl,push_cast,seval]
      refine ae.lentK hfa [0] rfl qsZ qsZ ?_
      refine zgZ ?_
      exact am [] (by simp(disch:=try exact dI) only[cj,push_cast,seval])
     ·have hb0I:¬ (b:Int)=0:=by omega
      obtain⟨hb1,hb2⟩:=hple.resolve_left hb0
      have hen:=toE (T:=T) (p:=p) (q9 n)
      rw[if_neg hb0] at hZj
      cases hpn:eC n with
      | none=>
        rw[hpn] at hZj hen
        simp only at hZj
        rw[if_neg (by decide)] at hZj
        rw[hbad 16 hZj]
        have hfa:=hf j 16
        simp only[moB,moC] at hfa
        simp only[tq] at hen
        generalize hQ:aC out=Q at *
        simp(disch:=try exact dI) only[hltI,hc,ag,h34I,h32I,h127I,h92I,hl1I,hd,hdI,push_cast,seval]
        refine ae.pure hpt rfl ?_
        simp(disch:=try exact dI) only[hb0I,push_cast,seval]
        refine ae.pure hen rfl ?_
        refine zgZ ?_
        refine ae.lentK hfa [0] rfl qsZ qsZ ?_
        refine zgZ ?_
        exact am [] (by simp(disch:=try exact dI) only[cj,push_cast,seval])
      | some t=>
        rw[hpn] at hZj hen
        have htl:=ni hpn
        simp only[if_true] at hZj
        rw[List.drop_drop,show j+1+(b - (j+2)+1)=b by omega] at hZj
        simp only[tq] at hen
        have hB:aC (out++t)=aC out++aC t:=cB _ _
        have hbt:=dX t
        have hall:((aC t).all fun y=>y.cells.length == 1)=true:=List.all_eq_true.2 fun y hy=>by
         obtain⟨b,_,rfl⟩:=List.mem_map.1 hy
         rfl
        generalize hQ:aC out=Q at *
        simp(disch:=try exact dI) only[hltI,hc,ag,h34I,h32I,h127I,h92I,hl1I,hd,hdI,push_cast,seval]
        refine ae.pure hpt rfl ?_
        simp(disch:=try exact dI) only[hb0I,push_cast,seval]
        refine ae.pure hen rfl ?_
        have hbb:(b:Int) - 1+1=(b:Int):=by omega
        simp(disch:=try exact dI) only[mT,pQ,hall,push_cast,seval]
        exact⟨(b,out++t),bu (by simp(disch:=try exact dI) only[hB,hbb,push_cast,seval]),⟨by simp only;omega,by simp only[Us];omega,f,by simp only;omega,hZj⟩,by simp only;omega⟩
    ·have d117I:¬ (d.toNat:Int)=117:=fun h=>d117 (US.1 (by simpa using (show d.toNat=117 by omega)))
     rw[if_neg d117,if_neg (by decide)] at hZj
     rw[hbad 13 hZj]
     have hfa:=hf j 13
     simp only[moB,moC] at hfa
     generalize hQ:aC out=Q at *
     generalize cp M.s (j+2)=P at *
     simp(disch:=try exact dI) only[hltI,hc,ag,h34I,h32I,h127I,h92I,hl1I,hd,d34I,d92I,d110I,d114I,d116I,push_cast,seval]
     refine ae.pure hpt rfl ?_
     simp(disch:=try exact dI) only[d117I,hnl,push_cast,seval]
     refine ae.lentK hfa [0] rfl qsZ qsZ ?_
     refine zgZ ?_
     exact am [] (by simp(disch:=try exact dI) only[cj,push_cast,seval])
   ·have hl1I:¬ (j:Int)+1<(M.s.length:Int):=by omega
    have hl2I:(M.s.length:Int)<=(j:Int)+1:=by omega
    have hpt:=toE (T:=T) (p:=p) (uL M.s (j+2) hs (by omega))
    rw[show cp M.s (j+2)=(0,0) by unfold cp;rw[UN (by omega)];rfl] at hpt
    rw[show M.s.drop (j+1)=[] from U1 (by omega),dL h92] at hZj
    generalize hQ:aC out=Q at *
    simp(disch:=try exact dI) only[hltI,hc,ag,h34I,h32I,h127I,h92I,hl1I,push_cast,seval]
    refine ae.pure hpt rfl ?_
    simp(disch:=try exact dI) only[hl1I,hl2I,push_cast,seval]
    exact⟨(j+1,out),bu (by simp(disch:=try exact dI) only[hQ,push_cast,seval]),⟨by simp only;omega,by simp only;omega,M.s.length+1,by simp only;omega,by simp only;rw[U1 (by omega),f9];exact hZj⟩,by simp only;omega⟩
  ·have h92I:¬ (c.toNat:Int)=92:=by omega
   rw[cy h34 hbd h92] at hZj
   have hB:aC (out++[c])=aC out++[.int .u8 (c.toNat:Int)]:=by rw[cB];rfl
   have hbl:=dX out
   generalize hQ:aC out=Q at *
   simp(disch:=try exact dI) only[hltI,hc,ag,h34I,h32I,h127I,h92I,push_cast,seval]
   exact⟨(j+1,out++[c]),bu (by simp(disch:=try exact dI) only[hB,push_cast,seval]),⟨by simp only;omega,by simp only[Us,List.length_singleton];omega,f,by simp only;omega,hZj⟩,by simp only;omega⟩
 ·have hltI:¬ (j:Int)<(M.s.length:Int):=by omega
  rw[U1 (by omega),f9] at hZj
  subst hZj
  have hfa:=hf a 4
  simp only[moB,moC] at hfa
  simp(disch:=try exact dI) only[hltI,push_cast,seval]
  refine ae.lentK hfa [0] rfl qsZ qsZ ?_
  refine zgZ ?_
  exact am [] (by simp(disch:=try exact dI) only[dt,cj,push_cast,seval])
end
