/- A part of the proof for LiteralReadsCardSaid. -/
import Derived.Test.YtamoeblcphjbaaaGreatDoorRdLP2
set_option maxRecDepth 100000
set_option linter.unusedVariables false
set_option linter.unusedSimpArgs false
-- many steps
namespace Go.Proofs.YtamoeblcphjbaaaGreatDoor
open Go Go.Ab
attribute [local irreducible] vc
theorem zb (s p:List UInt8):aq Tryz.prog aF 151 [.str s,.str p] (.bool (fF p s)):=by
 have h:=kr s p
 change aq Tryz.prog aF 203 [.str s,.str p] (.bool (fF p s)) at h
 generalize fF p s=b at *
 refine aq.intro KP (by simp[Q3]) ?_
 simp(disch:=try exact dI) only[Q3,push_cast,seval]
 refine ab.pure h rfl ?_
 simp(disch:=try exact dI) only[push_cast,seval]
theorem CK (s p:List UInt8):aq Tryz.prog aF 260 [.str s,.str p] (.str (if fF p s=true then s.drop p.length else s)):=by
 have h:=kr s p
 change aq Tryz.prog aF 203 [.str s,.str p] (.bool (fF p s)) at h
 have hle:fF p s=true→p.length≤s.length:=fun h=>(of_decide_eq_true h).2
 generalize fF p s=b at *
 refine aq.intro Kc (by simp[O9]) ?_
 cases b with
 | true=>
   have hl:=hle rfl
   rw[if_pos rfl]
   simp(disch:=try exact dI) only[O9,push_cast,seval]
   refine ab.pure h rfl ?_
   simp(disch:=try exact dI) only[List.take_length,push_cast,seval]
 | false=>
   rw[if_neg (by decide)]
   simp(disch:=try exact dI) only[O9,push_cast,seval]
   refine ab.pure h rfl ?_
   simp(disch:=try exact dI) only[push_cast,seval]
theorem CL (s p:List UInt8):aq Tryz.prog aF 235 [.str s,.str p] (.str (if fF p s=true then s.drop p.length else s)):=by
 have h:=CK s p
 generalize (if fF p s=true then s.drop p.length else s)=q at *
 refine aq.intro Ke (by simp[QK]) ?_
 simp(disch:=try exact dI) only[QK,push_cast,seval]
 refine ab.pure h rfl ?_
 simp(disch:=try exact dI) only[push_cast,seval]
theorem vQ (n:Nat):aq Tryz.prog aF 219 [.int .i64 (n:Int)] (.bool (decide (n≤1114111∧¬ (55296≤n∧n≤57343)))):=by
 have h0:(0:Int)≤(n:Int):=by omega
 refine aq.intro Kg (by simp[Lk]) ?_
 by_cases h1:n≤1114111
 ·have h1I:(n:Int)≤1114111:=by omega
  by_cases h2:n<55296
  ·have h2I:(n:Int)<55296:=by omega
   rw[show decide (n≤1114111∧¬ (55296≤n∧n≤57343))=true from decide_eq_true ⟨h1,by omega⟩]
   simp(disch:=try exact dI) only[Lk,h0,h1I,h2I,push_cast,seval]
  ·have h2I:¬ (n:Int)<55296:=by omega
   by_cases h3:57343<n
   ·have h3I:(57343:Int)<(n:Int):=by omega
    rw[show decide (n≤1114111∧¬ (55296≤n∧n≤57343))=true from decide_eq_true ⟨h1,by omega⟩]
    simp(disch:=try exact dI) only[Lk,h0,h1I,h2I,h3I,push_cast,seval]
   ·have h3I:¬ (57343:Int)<(n:Int):=by omega
    rw[show decide (n≤1114111∧¬ (55296≤n∧n≤57343))=false from decide_eq_false (by omega)]
    simp(disch:=try exact dI) only[Lk,h0,h1I,h2I,h3I,push_cast,seval]
 ·have h1I:¬ (n:Int)≤1114111:=by omega
  rw[show decide (n≤1114111∧¬ (55296≤n∧n≤57343))=false from decide_eq_false (by omega)]
  simp(disch:=try exact dI) only[Lk,h0,h1I,push_cast,seval]
def Ba:Option (List UInt8)→PV
 | some t=>.tup [.str t,.int .i64 0]
 | none=>.tup [.str [],.int .i64 2]
theorem A9 (n:Nat):aq Tryz.prog aF 182 [.int .i64 (n:Int)] (Ba (e6 n)):=by
 have h:=vQ n
 refine aq.intro Kt (by simp[Pd]) ?_
 unfold e6
 by_cases hc:n≤1114111∧¬ (55296≤n∧n≤57343)
 ·rw[decide_eq_true hc] at h
  rw[if_pos hc,Ba]
  have hw:IntKind.i32.wrap (n:Int)=(n:Int):=by simp[IntKind.wrap,IntKind.bits,IntKind.signed];omega
  simp(disch:=try exact dI) only[Pd,push_cast,seval]
  refine ab.pure h rfl ?_
  simp(disch:=try exact dI) only[hw,push_cast,seval]
 ·rw[decide_eq_false hc] at h
  rw[if_neg hc,Ba]
  simp(disch:=try exact dI) only[Pd,push_cast,seval]
  refine ab.pure h rfl ?_
  simp(disch:=try exact dI) only[push_cast,seval]
theorem Jj (c:UInt8):(match pK c with
  | some b=>0≤eR c [34,92,110,114,116] 0∧eR c [34,92,110,114,116] 0≤4∧(([34,92,10,13,9]:List UInt8).take ((eR c [34,92,110,114,116] 0).toNat+1)).drop (eR c [34,92,110,114,116] 0).toNat=[b]
  | none=>eR c [34,92,110,114,116] 0 = -1):=by
 have key:∀ c:UInt8,(match pK c with
  | some b=>decide (0≤eR c [34,92,110,114,116] 0∧eR c [34,92,110,114,116] 0≤4∧(([34,92,10,13,9]:List UInt8).take ((eR c [34,92,110,114,116] 0).toNat+1)).drop (eR c [34,92,110,114,116] 0).toNat=[b])
  | none=>decide (eR c [34,92,110,114,116] 0 = -1))=true:=eK (by decide +kernel)
 have h:=key c
 cases hE:pK c with
 | none=>rw[hE] at h;exact of_decide_eq_true h
 | some b=>rw[hE] at h;exact of_decide_eq_true h
theorem A4 {c b:UInt8}{r:List UInt8}(h:pK c=some b):iw (c::r)=(([b],1),0):=by
 simp only[iw,h]
theorem A3 {c:UInt8}{r:List UInt8}(h:pK c=none):iw (c::r)=if fF [117,123] (c::r)=true then FA ((c::r).drop 2) else (([],0),13):=by
 show (match pK c with
  | some b=>(([b],1),0)
  | none=>if fF [117,123] (c::r)=true then FA ((c::r).drop 2) else (([],0),13))=_
 rw[h]
def GT (k:Nat):Option Nat→(List UInt8×Nat)×Int
 | none=>(([],0),13)
 | some n=>match e6 n with
   | none=>(([],0),16)
   | some t=>((t,k+3),0)
theorem GS {u:List UInt8}(h:iA 125 u=none):FA u=(([],0),13):=by unfold FA;rw[h]
theorem A1 {u d e:List UInt8}(h:iA 125 u=some (d,e))(hd:d.length<1∨6<d.length):FA u=(([],0),13):=by unfold FA;rw[h];exact if_pos hd
theorem A2 {u d e:List UInt8}(h:iA 125 u=some (d,e))(hd:¬ (d.length<1∨6<d.length)):FA u=GT d.length (lc 0 d):=by
 unfold FA;rw[h]
 refine (if_neg hd).trans ?_
 unfold GT
 cases lc 0 d with
 | none=>rfl
 | some n=>cases e6 n<;>rfl
theorem AB:∀ (l:List UInt8) (n m:Nat),lc n l=some m→m+1≤(n+1)*16 ^ l.length
 | [],n,m,h=>by simp[lc] at h;subst h;simp
 | c::r,n,m,h=>by
   rw[lc] at h
   cases hc:oW c with
   | none=>rw[hc] at h;simp at h
   | some d=>
     rw[hc] at h
     have hd:=mL hc
     have:=AB r _ m h
     refine Nat.le_trans this ?_
     rw[List.length_cons,Nat.pow_succ,Nat.mul_comm (16 ^ r.length) 16,← Nat.mul_assoc]
     exact Nat.mul_le_mul_right _ (by omega)
theorem mO:∀ (l:List UInt8) (n:Nat) (c:UInt8) (r:List UInt8),lc n (l++c::r)=(lc n l).bind fun m=>lc m (c::r)
 | [],n,c,r=>rfl
 | b::l,n,c,r=>by
   rw[List.cons_append,lc,lc]
   cases oW b with
   | none=>rfl
   | some d=>exact mO l _ c r
def A0 (q:(List UInt8×Nat)×Int):PV:=.tup [.str q.1.1,.int .i64 (q.1.2:Int),.int .i64 q.2]
theorem JK (d:UInt8)(s:List UInt8):m4 d s = .tup [.str ((iA d s).getD (s,[])).1,.str ((iA d s).getD (s,[])).2,.bool (iA d s).isSome]:=by
 unfold m4
 cases h:iA d s with
 | none=>rfl
 | some q=>rfl
set_option maxHeartbeats 2000000 in
theorem o8 (s:List UInt8)(h0:s≠[])(hs:s.length≤65536):aq Tryz.prog aF 207 [.str s] (A0 (iw s)):=by
 obtain⟨c,r,rfl⟩:∃ c r,s=c::r:=by
  cases s with
  | nil=>exact absurd rfl h0
  | cons c r=>exact⟨c,r,rfl⟩
 have hk:=jn [34,92,110,114,116] c
 have hf:=Jj c
 have hc0:(c::r)[0]? = some c:=rfl
 cases hE:pK c with
 | some b=>
   rw[hE] at hf
   obtain⟨q,hq⟩:∃ q,q=eR c [34,92,110,114,116] 0:=⟨_,rfl⟩
   rw[← hq] at hf hk
   obtain⟨f1,f2,f3⟩:=hf
   obtain⟨m,rfl⟩:∃ m:Nat,q=m:=⟨q.toNat,by omega⟩
   rw[Int.toNat_natCast] at f3
   have f3':List.drop m (34::List.take m [92,10,13,9])=[b]:=f3
   rw[A4 hE]
   unfold A0
   have hm:m≤4:=by omega
   refine aq.intro iG (by simp[wJ]) ?_
   simp(disch:=try exact dI) only[wJ,hc0,ag,push_cast,seval]
   refine ab.pure hk rfl ?_
   simp(disch:=try exact dI) only[f3',push_cast,seval]
 | none=>
   rw[hE] at hf
   rw[A3 hE]
   have hf':eR c [34,92,110,114,116] 0 = -1:=hf
   rw[hf'] at hk
   have ht:=CL (c::r) [117,123]
   have hp:=zb (c::r) [117,123]
   rw[show ([117,123]:List UInt8).length=2 from rfl] at ht
   cases hP:fF [117,123] (c::r) with
   | false=>
     rw[hP] at ht hp
     rw[if_neg (by decide)] at ht
     rw[if_neg (by decide)]
     unfold A0
     have hcu:=Br 125 (c::r) (by omega)
     rw[JK] at hcu
     generalize ((iA 125 (c::r)).getD (c::r,[])).1=x at *
     generalize ((iA 125 (c::r)).getD (c::r,[])).2=y at *
     generalize (iA 125 (c::r)).isSome=z at *
     refine aq.intro iG (by simp[wJ]) ?_
     simp(disch:=try exact dI) only[wJ,hc0,ag,push_cast,seval]
     refine ab.pure hk rfl ?_
     simp(disch:=try exact dI) only[push_cast,seval]
     refine ab.pure ht rfl ?_
     simp(disch:=try exact dI) only[push_cast,seval]
     refine ab.pure hcu rfl ?_
     simp(disch:=try exact dI) only[push_cast,seval]
     refine ab.pure hp rfl ?_
     simp(disch:=try exact dI) only[push_cast,seval]
   | true=>
     rw[hP] at ht hp
     rw[if_pos rfl] at ht
     rw[if_pos rfl]
     obtain⟨U,hU⟩:∃ U,U=(c::r).drop 2:=⟨_,rfl⟩
     have hUl:U.length≤65536:=by rw[hU,List.length_drop];omega
     rw[← hU] at ht ⊢
     have hcu:=Br 125 U (by omega)
     cases hC:iA 125 U with
     | none=>
       simp only[m4,hC] at hcu
       rw[GS hC]
       unfold A0
       refine aq.intro iG (by simp[wJ]) ?_
       simp(disch:=try exact dI) only[wJ,hc0,ag,push_cast,seval]
       refine ab.pure hk rfl ?_
       simp(disch:=try exact dI) only[push_cast,seval]
       refine ab.pure ht rfl ?_
       simp(disch:=try exact dI) only[push_cast,seval]
       refine ab.pure hcu rfl ?_
       simp(disch:=try exact dI) only[push_cast,seval]
       refine ab.pure hp rfl ?_
       simp(disch:=try exact dI) only[push_cast,seval]
     | some q=>
       obtain⟨d,e⟩:=q
       simp only[m4,hC] at hcu
       by_cases hd1:d.length<1
       ·have hd1I:(d.length:Int)<1:=by omega
        rw[A1 hC (.inl hd1)]
        unfold A0
        refine aq.intro iG (by simp[wJ]) ?_
        simp(disch:=try exact dI) only[wJ,hc0,ag,push_cast,seval]
        refine ab.pure hk rfl ?_
        simp(disch:=try exact dI) only[push_cast,seval]
        refine ab.pure ht rfl ?_
        simp(disch:=try exact dI) only[push_cast,seval]
        refine ab.pure hcu rfl ?_
        simp(disch:=try exact dI) only[push_cast,seval]
        refine ab.pure hp rfl ?_
        simp(disch:=try exact dI) only[hd1I,push_cast,seval]
       have hd1I:¬ (d.length:Int)<1:=by omega
       by_cases hd6:6<d.length
       ·have hd6I:(6:Int)<(d.length:Int):=by omega
        rw[A1 hC (.inr hd6)]
        unfold A0
        refine aq.intro iG (by simp[wJ]) ?_
        simp(disch:=try exact dI) only[wJ,hc0,ag,push_cast,seval]
        refine ab.pure hk rfl ?_
        simp(disch:=try exact dI) only[push_cast,seval]
        refine ab.pure ht rfl ?_
        simp(disch:=try exact dI) only[push_cast,seval]
        refine ab.pure hcu rfl ?_
        simp(disch:=try exact dI) only[push_cast,seval]
        refine ab.pure hp rfl ?_
        simp(disch:=try exact dI) only[hd1I,hd6I,push_cast,seval]
       have hd6I:¬ (6:Int)<(d.length:Int):=by omega
       rw[A2 hC (by omega)]
       obtain⟨X,hX⟩:∃ X,X=GT d.length (lc 0 d):=⟨_,rfl⟩
       rw[← hX]
       refine aq.intro iG (by simp[wJ]) ?_
       simp(disch:=try exact dI) only[wJ,hc0,ag,push_cast,seval]
       refine ab.pure hk rfl ?_
       simp(disch:=try exact dI) only[push_cast,seval]
       refine ab.pure ht rfl ?_
       simp(disch:=try exact dI) only[push_cast,seval]
       refine ab.pure hcu rfl ?_
       simp(disch:=try exact dI) only[push_cast,seval]
       refine ab.pure hp rfl ?_
       simp(disch:=try exact dI) only[hd1I,hd6I,push_cast,seval]
       refine aQ ([]) (fun y:Nat×Nat=>[(9,.pv (.int .i64 (y.2:Int))),(47,.pv (.int .i64 (y.1:Int)))]) (fun _=>[]) (fun y=>y.1≤d.length∧lc 0 (d.take y.1)=some y.2) (fun y=>d.length - y.1) ((0,0)) ?_;intro e0 σ0 n0 h0;simp(disch:=try exact dI) only[push_cast,seval] at h0;obtain⟨rfl,rfl,rfl⟩:=h0;refine⟨?_,?_,?_⟩
       ·simp(disch:=try exact dI) only[push_cast,seval]
       ·exact⟨by simp,by simp[lc]⟩
       rintro⟨i,n⟩ ⟨hi,hn⟩
       simp only at hi hn
       have hb:=AB _ _ _ hn
       have hp16:16 ^ (d.take i).length≤16 ^ 6:=Nat.pow_le_pow_right (by omega) (by simp;omega)
       have hn6:n<16777216:=by omega
       by_cases hlt:i<d.length
       ·have hltI:(i:Int)<(d.length:Int):=by omega
        obtain⟨b,hbc⟩:∃ b,d[i]? = some b:=⟨_,List.getElem?_eq_getElem hlt⟩
        have h208:=AC b
        have hts:=aR hbc
        unfold GQ at h208
        cases hv:oW b with
        | none=>
          rw[hv] at h208
          have hno:lc 0 d=none:=by
           have e:d=d.take i++b::d.drop (i+1):=by rw[← bP hbc,List.take_append_drop]
           rw[e,mO,hn]
           simp[lc,hv]
          rw[hno] at hX
          rw[show X=(([],0),13) from hX]
          unfold A0
          simp(disch:=try exact dI) only[hltI,hbc,ag,push_cast,seval]
          refine ab.pure h208 rfl ?_
          simp(disch:=try exact dI) only[push_cast,seval]
        | some v=>
          rw[hv] at h208
          have hv16:=mL hv
          have hvI:¬ (v:Int)<0:=by omega
          simp(disch:=try exact dI) only[hltI,hbc,ag,push_cast,seval]
          refine ab.pure h208 rfl ?_
          simp(disch:=try exact dI) only[hvI,push_cast,seval]
          refine⟨(i+1,16*n+v),bA qsZ,⟨by simp only;omega,?_⟩,by simp only;omega⟩
          simp only
          rw[hts,mO,hn]
          simp[lc,hv]
       ·have hltI:¬ (i:Int)<(d.length:Int):=by omega
        obtain rfl:i=d.length:=by omega
        rw[List.take_length] at hn
        rw[hn] at hX
        have he:=A9 n
        cases hpt:e6 n with
        | none=>
          rw[hpt] at he
          simp only[GT,hpt] at hX
          rw[hX]
          unfold A0
          simp(disch:=try exact dI) only[hltI,push_cast,seval]
          refine ab.pure he rfl ?_
          simp(disch:=try exact dI) only[Ba,push_cast,seval]
        | some t=>
          rw[hpt] at he
          simp only[GT,hpt] at hX
          rw[hX]
          unfold A0
          simp(disch:=try exact dI) only[hltI,push_cast,seval]
          refine ab.pure he rfl ?_
          simp(disch:=try exact dI) only[Ba,push_cast,seval]
          omega
end Go.Proofs.YtamoeblcphjbaaaGreatDoor
