/- A part of the proof for LiteralFieldsCardSaid. -/
import Derived.Test.YtamoeblcphjbaaaGreatDoorFlLP2
set_option maxRecDepth 100000
set_option linter.unusedVariables false
set_option linter.unusedSimpArgs false
-- many steps
namespace Go.Proofs.YtamoeblcphjbaaaGreatDoor
open Go Go.Ab
attribute [local irreducible] vc
theorem An (s p:List UInt8):aq Tryz.prog aF 151 [.str s,.str p] (.bool (fK p s)):=by
 have h:=kJ s p
 change aq Tryz.prog aF 203 [.str s,.str p] (.bool (fK p s)) at h
 generalize fK p s=b at *
 refine aq.intro LP (by simp[Sf]) ?_
 simp(disch:=try exact dI) only[Sf,push_cast,seval]
 refine ab.pure h rfl ?_
 simp(disch:=try exact dI) only[push_cast,seval]
theorem DQ (s p:List UInt8):aq Tryz.prog aF 260 [.str s,.str p] (.str (if fK p s=true then s.drop p.length else s)):=by
 have h:=kJ s p
 change aq Tryz.prog aF 203 [.str s,.str p] (.bool (fK p s)) at h
 have hle:fK p s=true→p.length≤s.length:=fun h=>(of_decide_eq_true h).2
 generalize fK p s=b at *
 refine aq.intro Lc (by simp[Qe]) ?_
 cases b with
 | true=>
   have hl:=hle rfl
   rw[if_pos rfl]
   simp(disch:=try exact dI) only[Qe,push_cast,seval]
   refine ab.pure h rfl ?_
   simp(disch:=try exact dI) only[List.take_length,push_cast,seval]
 | false=>
   rw[if_neg (by decide)]
   simp(disch:=try exact dI) only[Qe,push_cast,seval]
   refine ab.pure h rfl ?_
   simp(disch:=try exact dI) only[push_cast,seval]
theorem DR (s p:List UInt8):aq Tryz.prog aF 235 [.str s,.str p] (.str (if fK p s=true then s.drop p.length else s)):=by
 have h:=DQ s p
 generalize (if fK p s=true then s.drop p.length else s)=q at *
 refine aq.intro Le (by simp[RS]) ?_
 simp(disch:=try exact dI) only[RS,push_cast,seval]
 refine ab.pure h rfl ?_
 simp(disch:=try exact dI) only[push_cast,seval]
theorem wC (n:Nat):aq Tryz.prog aF 219 [.int .i64 (n:Int)] (.bool (decide (n≤1114111∧¬ (55296≤n∧n≤57343)))):=by
 have h0:(0:Int)≤(n:Int):=by omega
 refine aq.intro Lg (by simp[Mq]) ?_
 by_cases h1:n≤1114111
 ·have h1I:(n:Int)≤1114111:=by omega
  by_cases h2:n<55296
  ·have h2I:(n:Int)<55296:=by omega
   rw[show decide (n≤1114111∧¬ (55296≤n∧n≤57343))=true from decide_eq_true ⟨h1,by omega⟩]
   simp(disch:=try exact dI) only[Mq,h0,h1I,h2I,push_cast,seval]
  ·have h2I:¬ (n:Int)<55296:=by omega
   by_cases h3:57343<n
   ·have h3I:(57343:Int)<(n:Int):=by omega
    rw[show decide (n≤1114111∧¬ (55296≤n∧n≤57343))=true from decide_eq_true ⟨h1,by omega⟩]
    simp(disch:=try exact dI) only[Mq,h0,h1I,h2I,h3I,push_cast,seval]
   ·have h3I:¬ (57343:Int)<(n:Int):=by omega
    rw[show decide (n≤1114111∧¬ (55296≤n∧n≤57343))=false from decide_eq_false (by omega)]
    simp(disch:=try exact dI) only[Mq,h0,h1I,h2I,h3I,push_cast,seval]
 ·have h1I:¬ (n:Int)≤1114111:=by omega
  rw[show decide (n≤1114111∧¬ (55296≤n∧n≤57343))=false from decide_eq_false (by omega)]
  simp(disch:=try exact dI) only[Mq,h0,h1I,push_cast,seval]
def Ca:Option (List UInt8)→PV
 | some t=>.tup [.str t,.int .i64 0]
 | none=>.tup [.str [],.int .i64 2]
theorem B9 (n:Nat):aq Tryz.prog aF 182 [.int .i64 (n:Int)] (Ca (fa n)):=by
 have h:=wC n
 refine aq.intro Lt (by simp[Qi]) ?_
 unfold fa
 by_cases hc:n≤1114111∧¬ (55296≤n∧n≤57343)
 ·rw[decide_eq_true hc] at h
  rw[if_pos hc,Ca]
  have hw:IntKind.i32.wrap (n:Int)=(n:Int):=by simp[IntKind.wrap,IntKind.bits,IntKind.signed];omega
  simp(disch:=try exact dI) only[Qi,push_cast,seval]
  refine ab.pure h rfl ?_
  simp(disch:=try exact dI) only[hw,push_cast,seval]
 ·rw[decide_eq_false hc] at h
  rw[if_neg hc,Ca]
  simp(disch:=try exact dI) only[Qi,push_cast,seval]
  refine ab.pure h rfl ?_
  simp(disch:=try exact dI) only[push_cast,seval]
theorem Kl (c:UInt8):(match qn c with
  | some b=>0≤eU c [34,92,110,114,116] 0∧eU c [34,92,110,114,116] 0≤4∧(([34,92,10,13,9]:List UInt8).take ((eU c [34,92,110,114,116] 0).toNat+1)).drop (eU c [34,92,110,114,116] 0).toNat=[b]
  | none=>eU c [34,92,110,114,116] 0 = -1):=by
 have key:∀ c:UInt8,(match qn c with
  | some b=>decide (0≤eU c [34,92,110,114,116] 0∧eU c [34,92,110,114,116] 0≤4∧(([34,92,10,13,9]:List UInt8).take ((eU c [34,92,110,114,116] 0).toNat+1)).drop (eU c [34,92,110,114,116] 0).toNat=[b])
  | none=>decide (eU c [34,92,110,114,116] 0 = -1))=true:=eP (by decide +kernel)
 have h:=key c
 cases hE:qn c with
 | none=>rw[hE] at h;exact of_decide_eq_true h
 | some b=>rw[hE] at h;exact of_decide_eq_true h
theorem B4 {c b:UInt8}{r:List UInt8}(h:qn c=some b):iC (c::r)=(([b],1),0):=by
 simp only[iC,h]
theorem B3 {c:UInt8}{r:List UInt8}(h:qn c=none):iC (c::r)=if fK [117,123] (c::r)=true then GE ((c::r).drop 2) else (([],0),13):=by
 show (match qn c with
  | some b=>(([b],1),0)
  | none=>if fK [117,123] (c::r)=true then GE ((c::r).drop 2) else (([],0),13))=_
 rw[h]
def HY (k:Nat):Option Nat→(List UInt8×Nat)×Int
 | none=>(([],0),13)
 | some n=>match fa n with
   | none=>(([],0),16)
   | some t=>((t,k+3),0)
theorem HX {u:List UInt8}(h:iG 125 u=none):GE u=(([],0),13):=by unfold GE;rw[h]
theorem B1 {u d e:List UInt8}(h:iG 125 u=some (d,e))(hd:d.length<1∨6<d.length):GE u=(([],0),13):=by unfold GE;rw[h];exact if_pos hd
theorem B2 {u d e:List UInt8}(h:iG 125 u=some (d,e))(hd:¬ (d.length<1∨6<d.length)):GE u=HY d.length (lB 0 d):=by
 unfold GE;rw[h]
 refine (if_neg hd).trans ?_
 unfold HY
 cases lB 0 d with
 | none=>rfl
 | some n=>cases fa n<;>rfl
theorem By:∀ (l:List UInt8) (n m:Nat),lB n l=some m→m+1≤(n+1)*16 ^ l.length
 | [],n,m,h=>by simp[lB] at h;subst h;simp
 | c::r,n,m,h=>by
   rw[lB] at h
   cases hc:pu c with
   | none=>rw[hc] at h;simp at h
   | some d=>
     rw[hc] at h
     have hd:=nh hc
     have:=By r _ m h
     refine Nat.le_trans this ?_
     rw[List.length_cons,Nat.pow_succ,Nat.mul_comm (16 ^ r.length) 16,← Nat.mul_assoc]
     exact Nat.mul_le_mul_right _ (by omega)
theorem nk:∀ (l:List UInt8) (n:Nat) (c:UInt8) (r:List UInt8),lB n (l++c::r)=(lB n l).bind fun m=>lB m (c::r)
 | [],n,c,r=>rfl
 | b::l,n,c,r=>by
   rw[List.cons_append,lB,lB]
   cases pu b with
   | none=>rfl
   | some d=>exact nk l _ c r
def B0 (q:(List UInt8×Nat)×Int):PV:=.tup [.str q.1.1,.int .i64 (q.1.2:Int),.int .i64 q.2]
theorem KL (d:UInt8)(s:List UInt8):nB d s = .tup [.str ((iG d s).getD (s,[])).1,.str ((iG d s).getD (s,[])).2,.bool (iG d s).isSome]:=by
 unfold nB
 cases h:iG d s with
 | none=>rfl
 | some q=>rfl
set_option maxHeartbeats 2000000 in
theorem pB (s:List UInt8)(h0:s≠[])(hs:s.length≤65536):aq Tryz.prog aF 207 [.str s] (B0 (iC s)):=by
 obtain⟨c,r,rfl⟩:∃ c r,s=c::r:=by
  cases s with
  | nil=>exact absurd rfl h0
  | cons c r=>exact⟨c,r,rfl⟩
 have hk:=jw [34,92,110,114,116] c
 have hf:=Kl c
 have hc0:(c::r)[0]? = some c:=rfl
 cases hE:qn c with
 | some b=>
   rw[hE] at hf
   obtain⟨q,hq⟩:∃ q,q=eU c [34,92,110,114,116] 0:=⟨_,rfl⟩
   rw[← hq] at hf hk
   obtain⟨f1,f2,f3⟩:=hf
   obtain⟨m,rfl⟩:∃ m:Nat,q=m:=⟨q.toNat,by omega⟩
   rw[Int.toNat_natCast] at f3
   have f3':List.drop m (34::List.take m [92,10,13,9])=[b]:=f3
   rw[B4 hE]
   unfold B0
   have hm:m≤4:=by omega
   refine aq.intro iN (by simp[xx]) ?_
   simp(disch:=try exact dI) only[xx,hc0,ag,push_cast,seval]
   refine ab.pure hk rfl ?_
   simp(disch:=try exact dI) only[f3',push_cast,seval]
 | none=>
   rw[hE] at hf
   rw[B3 hE]
   have hf':eU c [34,92,110,114,116] 0 = -1:=hf
   rw[hf'] at hk
   have ht:=DR (c::r) [117,123]
   have hp:=An (c::r) [117,123]
   rw[show ([117,123]:List UInt8).length=2 from rfl] at ht
   cases hP:fK [117,123] (c::r) with
   | false=>
     rw[hP] at ht hp
     rw[if_neg (by decide)] at ht
     rw[if_neg (by decide)]
     unfold B0
     have hcu:=Cp 125 (c::r) (by omega)
     rw[KL] at hcu
     generalize ((iG 125 (c::r)).getD (c::r,[])).1=x at *
     generalize ((iG 125 (c::r)).getD (c::r,[])).2=y at *
     generalize (iG 125 (c::r)).isSome=z at *
     refine aq.intro iN (by simp[xx]) ?_
     simp(disch:=try exact dI) only[xx,hc0,ag,push_cast,seval]
     refine ab.pure hk rfl ?_
     simp(disch:=try exact dI) only[push_cast,seval]
     refine ab.pure ht rfl ?_
     simp(disch:=try exact dI) only[push_cast,seval]
     refine ab.pure hcu rfl ?_
     simp(disch:=try exact dI) only[push_cast,seval]
     refine ab.pure hp rfl ?_
     simp(disch:=try exact dI) only[push_cast,seval]
   | true=>
     rw[hP] at ht hp
     rw[if_pos rfl] at ht
     rw[if_pos rfl]
     obtain⟨U,hU⟩:∃ U,U=(c::r).drop 2:=⟨_,rfl⟩
     have hUl:U.length≤65536:=by rw[hU,List.length_drop];omega
     rw[← hU] at ht ⊢
     have hcu:=Cp 125 U (by omega)
     cases hC:iG 125 U with
     | none=>
       simp only[nB,hC] at hcu
       rw[HX hC]
       unfold B0
       refine aq.intro iN (by simp[xx]) ?_
       simp(disch:=try exact dI) only[xx,hc0,ag,push_cast,seval]
       refine ab.pure hk rfl ?_
       simp(disch:=try exact dI) only[push_cast,seval]
       refine ab.pure ht rfl ?_
       simp(disch:=try exact dI) only[push_cast,seval]
       refine ab.pure hcu rfl ?_
       simp(disch:=try exact dI) only[push_cast,seval]
       refine ab.pure hp rfl ?_
       simp(disch:=try exact dI) only[push_cast,seval]
     | some q=>
       obtain⟨d,e⟩:=q
       simp only[nB,hC] at hcu
       by_cases hd1:d.length<1
       ·have hd1I:(d.length:Int)<1:=by omega
        rw[B1 hC (.inl hd1)]
        unfold B0
        refine aq.intro iN (by simp[xx]) ?_
        simp(disch:=try exact dI) only[xx,hc0,ag,push_cast,seval]
        refine ab.pure hk rfl ?_
        simp(disch:=try exact dI) only[push_cast,seval]
        refine ab.pure ht rfl ?_
        simp(disch:=try exact dI) only[push_cast,seval]
        refine ab.pure hcu rfl ?_
        simp(disch:=try exact dI) only[push_cast,seval]
        refine ab.pure hp rfl ?_
        simp(disch:=try exact dI) only[hd1I,push_cast,seval]
       have hd1I:¬ (d.length:Int)<1:=by omega
       by_cases hd6:6<d.length
       ·have hd6I:(6:Int)<(d.length:Int):=by omega
        rw[B1 hC (.inr hd6)]
        unfold B0
        refine aq.intro iN (by simp[xx]) ?_
        simp(disch:=try exact dI) only[xx,hc0,ag,push_cast,seval]
        refine ab.pure hk rfl ?_
        simp(disch:=try exact dI) only[push_cast,seval]
        refine ab.pure ht rfl ?_
        simp(disch:=try exact dI) only[push_cast,seval]
        refine ab.pure hcu rfl ?_
        simp(disch:=try exact dI) only[push_cast,seval]
        refine ab.pure hp rfl ?_
        simp(disch:=try exact dI) only[hd1I,hd6I,push_cast,seval]
       have hd6I:¬ (6:Int)<(d.length:Int):=by omega
       rw[B2 hC (by omega)]
       obtain⟨X,hX⟩:∃ X,X=HY d.length (lB 0 d):=⟨_,rfl⟩
       rw[← hX]
       refine aq.intro iN (by simp[xx]) ?_
       simp(disch:=try exact dI) only[xx,hc0,ag,push_cast,seval]
       refine ab.pure hk rfl ?_
       simp(disch:=try exact dI) only[push_cast,seval]
       refine ab.pure ht rfl ?_
       simp(disch:=try exact dI) only[push_cast,seval]
       refine ab.pure hcu rfl ?_
       simp(disch:=try exact dI) only[push_cast,seval]
       refine ab.pure hp rfl ?_
       simp(disch:=try exact dI) only[hd1I,hd6I,push_cast,seval]
       refine aN ([]) (fun y:Nat×Nat=>[(9,.pv (.int .i64 (y.2:Int))),(47,.pv (.int .i64 (y.1:Int)))]) (fun _=>[]) (fun y=>y.1≤d.length∧lB 0 (d.take y.1)=some y.2) (fun y=>d.length - y.1) ((0,0)) ?_;intro e0 σ0 n0 h0;simp(disch:=try exact dI) only[push_cast,seval] at h0;obtain⟨rfl,rfl,rfl⟩:=h0;refine⟨?_,?_,?_⟩
       ·simp(disch:=try exact dI) only[push_cast,seval]
       ·exact⟨by simp,by simp[lB]⟩
       rintro⟨i,n⟩ ⟨hi,hn⟩
       simp only at hi hn
       have hb:=By _ _ _ hn
       have hp16:16 ^ (d.take i).length≤16 ^ 6:=Nat.pow_le_pow_right (by omega) (by simp;omega)
       have hn6:n<16777216:=by omega
       by_cases hlt:i<d.length
       ·have hltI:(i:Int)<(d.length:Int):=by omega
        obtain⟨b,hbc⟩:∃ b,d[i]? = some b:=⟨_,List.getElem?_eq_getElem hlt⟩
        have h208:=Bz b
        have hts:=aP hbc
        unfold HU at h208
        cases hv:pu b with
        | none=>
          rw[hv] at h208
          have hno:lB 0 d=none:=by
           have e:d=d.take i++b::d.drop (i+1):=by rw[← bw hbc,List.take_append_drop]
           rw[e,nk,hn]
           simp[lB,hv]
          rw[hno] at hX
          rw[show X=(([],0),13) from hX]
          unfold B0
          simp(disch:=try exact dI) only[hltI,hbc,ag,push_cast,seval]
          refine ab.pure h208 rfl ?_
          simp(disch:=try exact dI) only[push_cast,seval]
        | some v=>
          rw[hv] at h208
          have hv16:=nh hv
          have hvI:¬ (v:Int)<0:=by omega
          simp(disch:=try exact dI) only[hltI,hbc,ag,push_cast,seval]
          refine ab.pure h208 rfl ?_
          simp(disch:=try exact dI) only[hvI,push_cast,seval]
          refine⟨(i+1,16*n+v),bz qsZ,⟨by simp only;omega,?_⟩,by simp only;omega⟩
          simp only
          rw[hts,nk,hn]
          simp[lB,hv]
       ·have hltI:¬ (i:Int)<(d.length:Int):=by omega
        obtain rfl:i=d.length:=by omega
        rw[List.take_length] at hn
        rw[hn] at hX
        have he:=B9 n
        cases hpt:fa n with
        | none=>
          rw[hpt] at he
          simp only[HY,hpt] at hX
          rw[hX]
          unfold B0
          simp(disch:=try exact dI) only[hltI,push_cast,seval]
          refine ab.pure he rfl ?_
          simp(disch:=try exact dI) only[Ca,push_cast,seval]
        | some t=>
          rw[hpt] at he
          simp only[HY,hpt] at hX
          rw[hX]
          unfold B0
          simp(disch:=try exact dI) only[hltI,push_cast,seval]
          refine ab.pure he rfl ?_
          simp(disch:=try exact dI) only[Ca,push_cast,seval]
          omega
end Go.Proofs.YtamoeblcphjbaaaGreatDoor
