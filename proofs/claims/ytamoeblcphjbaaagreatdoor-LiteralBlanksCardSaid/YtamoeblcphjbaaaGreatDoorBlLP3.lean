/- A part. -/
import Derived.Test.YtamoeblcphjbaaaGreatDoorBlLP1
set_option linter.unusedVariables false
set_option linter.unusedSimpArgs false
set_option maxHeartbeats 16000000
set_option maxRecDepth 100000
namespace Go.Proofs.YtamoeblcphjbaaaGreatDoor
open Go Go.Ab
attribute [local irreducible] vc
theorem BH (s p:List UInt8):au Tryz.prog aH 151 [.str s,.str p] (.bool (fD p s)):=by
 have h:=lR s p
 change au Tryz.prog aH 203 [.str s,.str p] (.bool (fD p s)) at h
 generalize fD p s=b at *
 refine au.intro Tn.2 (by simp[Tn]) ?_
 simp(disch:=try exact dI) only[Tn,push_cast,seval]
 refine ae.pure h rfl ?_
 exact qsZ
theorem E8 (s p:List UInt8):au Tryz.prog aH 260 [.str s,.str p] (.str (if fD p s=true then s.drop p.length else s)):=by
 have h:=lR s p
 change au Tryz.prog aH 203 [.str s,.str p] (.bool (fD p s)) at h
 have hle:fD p s=true->p.length<=s.length:=fun h=>(of_decide_eq_true h).2
 generalize fD p s=b at *
 refine au.intro Rg.2 (by simp[Rg]) ?_
 cases b with
 | true=>
   have hl:=hle rfl
   rw[if_pos rfl]
   simp(disch:=try exact dI) only[Rg,push_cast,seval]
   refine ae.pure h rfl ?_
   simp(disch:=try exact dI) only[List.take_length,push_cast,seval]
 | false=>
   rw[if_neg (by decide)]
   simp(disch:=try exact dI) only[Rg,push_cast,seval]
   refine ae.pure h rfl ?_
   exact qsZ
theorem E9 (s p:List UInt8):au Tryz.prog aH 235 [.str s,.str p] (.str (if fD p s=true then s.drop p.length else s)):=by
 have h:=E8 s p
 generalize (if fD p s=true then s.drop p.length else s)=q at *
 refine au.intro S0.2 (by simp[S0]) ?_
 simp(disch:=try exact dI) only[S0,push_cast,seval]
 refine ae.pure h rfl ?_
 exact qsZ
theorem yb (n:Nat):au Tryz.prog aH 219 [.int .i64 (n:Int)] (.bool (decide (n<=1114111/\¬ (55296<=n/\n<=57343)))):=by
 have h0:(0:Int)<=(n:Int):=by omega
 refine au.intro NS.2 (by simp[NS]) ?_
 by_cases h1:n<=1114111
 ·have h1I:(n:Int)<=1114111:=by omega
  by_cases h2:n<55296
  ·have h2I:(n:Int)<55296:=by omega
   rw[show decide (n<=1114111/\¬ (55296<=n/\n<=57343))=true from decide_eq_true ⟨h1,by omega⟩]
   simp(disch:=try exact dI) only[NS,h0,h1I,h2I,push_cast,seval]
  ·have h2I:¬ (n:Int)<55296:=by omega
   by_cases h3:57343<n
   ·have h3I:(57343:Int)<(n:Int):=by omega
    rw[show decide (n<=1114111/\¬ (55296<=n/\n<=57343))=true from decide_eq_true ⟨h1,by omega⟩]
    simp(disch:=try exact dI) only[NS,h0,h1I,h2I,h3I,push_cast,seval]
   ·have h3I:¬ (57343:Int)<(n:Int):=by omega
    rw[show decide (n<=1114111/\¬ (55296<=n/\n<=57343))=false from decide_eq_false (by omega)]
    simp(disch:=try exact dI) only[NS,h0,h1I,h2I,h3I,push_cast,seval]
 ·have h1I:¬ (n:Int)<=1114111:=by omega
  rw[show decide (n<=1114111/\¬ (55296<=n/\n<=57343))=false from decide_eq_false (by omega)]
  simp(disch:=try exact dI) only[NS,h0,h1I,push_cast,seval]
def tq:Option (List UInt8)->PV
 | some t=>.tup [.str t,.int .i64 0]
 | none=>.tup [.str [],.int .i64 2]
theorem q9 (n:Nat):au Tryz.prog aH 182 [.int .i64 (n:Int)] (tq (eC n)):=by
 have h:=yb n
 refine au.intro Ro.2 (by simp[Ro]) ?_
 unfold eC
 by_cases hc:n<=1114111/\¬ (55296<=n/\n<=57343)
 ·rw[decide_eq_true hc] at h
  rw[if_pos hc,tq]
  have hw:IntKind.i32.wrap (n:Int)=(n:Int):=by simp[IntKind.wrap,IntKind.bits,IntKind.signed];omega
  simp(disch:=try exact dI) only[Ro,push_cast,seval]
  refine ae.pure h rfl ?_
  simp(disch:=try exact dI) only[hw,push_cast,seval]
 ·rw[decide_eq_false hc] at h
  rw[if_neg hc,tq]
  simp(disch:=try exact dI) only[Ro,push_cast,seval]
  refine ae.pure h rfl ?_
  exact qsZ
theorem Mk (c:UInt8):(match oS c with
  | some b=>0<=fA c [34,92,110,114,116] 0/\fA c [34,92,110,114,116] 0<=4/\(([34,92,10,13,9]:List UInt8).take ((fA c [34,92,110,114,116] 0).toNat+1)).drop (fA c [34,92,110,114,116] 0).toNat=[b]
  | none=>fA c [34,92,110,114,116] 0 = -1):=by
 have key:∀ c:UInt8,(match oS c with
  | some b=>decide (0<=fA c [34,92,110,114,116] 0/\fA c [34,92,110,114,116] 0<=4/\(([34,92,10,13,9]:List UInt8).take ((fA c [34,92,110,114,116] 0).toNat+1)).drop (fA c [34,92,110,114,116] 0).toNat=[b])
  | none=>decide (fA c [34,92,110,114,116] 0 = -1))=true:=fH (by decide +kernel)
 have h:=key c
 cases hE:oS c with
 | none=>rw[hE] at h;exact of_decide_eq_true h
 | some b=>rw[hE] at h;exact of_decide_eq_true h
theorem iS {c b:UInt8}{r:List UInt8}(h:oS c=some b):eQ (c::r)=(([b],1),0):=by
 simp only[eQ,h]
theorem vV {c:UInt8}{r:List UInt8}(h:oS c=none):eQ (c::r)=if fD [117,123] (c::r)=true then zz ((c::r).drop 2) else (([],0),13):=by
 show (match oS c with
  | some b=>(([b],1),0)
  | none=>if fD [117,123] (c::r)=true then zz ((c::r).drop 2) else (([],0),13))=_
 rw[h]
def HM (k:Nat):Option Nat->(List UInt8×Nat)×Int
 | none=>(([],0),13)
 | some n=>match eC n with
   | none=>(([],0),16)
   | some t=>((t,k+3),0)
theorem DC {u:List UInt8}(h:fB 125 u=none):zz u=(([],0),13):=by unfold zz;rw[h]
theorem vT {u d e:List UInt8}(h:fB 125 u=some (d,e))(hd:d.length<1\/6<d.length):zz u=(([],0),13):=by unfold zz;rw[h];exact if_pos hd
theorem vU {u d e:List UInt8}(h:fB 125 u=some (d,e))(hd:¬ (d.length<1\/6<d.length)):zz u=HM d.length (jv 0 d):=by
 unfold zz;rw[h]
 refine (if_neg hd).trans ?_
 unfold HM
 cases jv 0 d with
 | none=>rfl
 | some n=>cases eC n<;>rfl
theorem C7:∀ (l:List UInt8) (n m:Nat),jv n l=some m->m+1<=(n+1)*16 ^ l.length
 | [],n,m,h=>by simp[jv] at h;subst h;simp
 | c::r,n,m,h=>by
   rw[jv] at h
   cases hc:eP c with
   | none=>rw[hc] at h;simp at h
   | some d=>
     rw[hc] at h
     have hd:=gS hc
     have:=C7 r _ m h
     refine Nat.le_trans this ?_
     rw[List.length_cons,Nat.pow_succ,Nat.mul_comm (16 ^ r.length) 16,<- Nat.mul_assoc]
     exact Nat.mul_le_mul_right _ (by omega)
theorem oK:∀ (l:List UInt8) (n:Nat) (c:UInt8) (r:List UInt8),jv n (l++c::r)=(jv n l).bind fun m=>jv m (c::r)
 | [],n,c,r=>rfl
 | b::l,n,c,r=>by
   rw[List.cons_append,jv,jv]
   cases eP b with
   | none=>rfl
   | some d=>exact oK l _ c r
def DB (q:(List UInt8×Nat)×Int):PV:=.tup [.str q.1.1,.int .i64 (q.1.2:Int),.int .i64 q.2]
theorem ML (d:UInt8)(s:List UInt8):oY d s = .tup [.str ((fB d s).getD (s,[])).1,.str ((fB d s).getD (s,[])).2,.bool (fB d s).isSome]:=by
 unfold oY
 cases h:fB d s with
 | none=>rfl
 | some q=>rfl
theorem qY (s:List UInt8)(h0:s≠[])(hs:s.length<=65536):au Tryz.prog aH 207 [.str s] (DB (eQ s)):=by
 obtain⟨c,r,rfl⟩:∃ c r,s=c::r:=by
  cases s with
  | nil=>exact absurd rfl h0
  | cons c r=>exact⟨c,r,rfl⟩
 have hk:=ku [34,92,110,114,116] c
 have hf:=Mk c
 have hc0:(c::r)[0]? = some c:=rfl
 cases hE:oS c with
 | some b=>
   rw[hE] at hf
   obtain⟨q,hq⟩:∃ q,q=fA c [34,92,110,114,116] 0:=⟨_,rfl⟩
   rw[<- hq] at hf hk
   obtain⟨f1,f2,f3⟩:=hf
   obtain⟨m,rfl⟩:∃ m:Nat,q=m:=⟨q.toNat,by omega⟩
   rw[Int.toNat_natCast] at f3
   have f3':List.drop m (34::List.take m [92,10,13,9])=[b]:=f3
   rw[iS hE]
   unfold DB
   have hm:m<=4:=by omega
   refine au.intro pn.2 (by simp[pn]) ?_
   simp(disch:=try exact dI) only[pn,hc0,ag,push_cast,seval]
   refine ae.pure hk rfl ?_
   simp(disch:=try exact dI) only[f3',push_cast,seval]
 | none=>
   rw[hE] at hf
   rw[vV hE]
   have hf':fA c [34,92,110,114,116] 0 = -1:=hf
   rw[hf'] at hk
   have ht:=E9 (c::r) [117,123]
   have hp:=BH (c::r) [117,123]
   rw[show ([117,123]:List UInt8).length=2 from rfl] at ht
   cases hP:fD [117,123] (c::r) with
   | false=>
     rw[hP] at ht hp
     rw[if_neg (by decide)] at ht
     rw[if_neg (by decide)]
     unfold DB
     have hcu:=DX 125 (c::r) (by omega)
     rw[ML] at hcu
     generalize ((fB 125 (c::r)).getD (c::r,[])).1=x at *
     generalize ((fB 125 (c::r)).getD (c::r,[])).2=y at *
     generalize (fB 125 (c::r)).isSome=z at *
     refine au.intro pn.2 (by simp[pn]) ?_
     simp(disch:=try exact dI) only[pn,hc0,ag,push_cast,seval]
     refine ae.pure hk rfl ?_
     refine zgZ ?_
     refine ae.pure ht rfl ?_
     refine zgZ ?_
     refine ae.pure hcu rfl ?_
     refine zgZ ?_
     refine ae.pure hp rfl ?_
     exact qsZ
   | true=>
     rw[hP] at ht hp
     rw[if_pos rfl] at ht
     rw[if_pos rfl]
     obtain⟨U,hU⟩:∃ U,U=(c::r).drop 2:=⟨_,rfl⟩
     have hUl:U.length<=65536:=by rw[hU,List.length_drop];omega
     rw[<- hU] at ht ⊢
     have hcu:=DX 125 U (by omega)
     cases hC:fB 125 U with
     | none=>
       simp only[oY,hC] at hcu
       rw[DC hC]
       unfold DB
       refine au.intro pn.2 (by simp[pn]) ?_
       simp(disch:=try exact dI) only[pn,hc0,ag,push_cast,seval]
       refine ae.pure hk rfl ?_
       refine zgZ ?_
       refine ae.pure ht rfl ?_
       refine zgZ ?_
       refine ae.pure hcu rfl ?_
       refine zgZ ?_
       refine ae.pure hp rfl ?_
       exact qsZ
     | some q=>
       obtain⟨d,e⟩:=q
       simp only[oY,hC] at hcu
       by_cases hd1:d.length<1
       ·have hd1I:(d.length:Int)<1:=by omega
        rw[vT hC (.inl hd1)]
        unfold DB
        refine au.intro pn.2 (by simp[pn]) ?_
        simp(disch:=try exact dI) only[pn,hc0,ag,push_cast,seval]
        refine ae.pure hk rfl ?_
        refine zgZ ?_
        refine ae.pure ht rfl ?_
        refine zgZ ?_
        refine ae.pure hcu rfl ?_
        refine zgZ ?_
        refine ae.pure hp rfl ?_
        simp(disch:=try exact dI) only[hd1I,push_cast,seval]
       have hd1I:¬ (d.length:Int)<1:=by omega
       by_cases hd6:6<d.length
       ·have hd6I:(6:Int)<(d.length:Int):=by omega
        rw[vT hC (.inr hd6)]
        unfold DB
        refine au.intro pn.2 (by simp[pn]) ?_
        simp(disch:=try exact dI) only[pn,hc0,ag,push_cast,seval]
        refine ae.pure hk rfl ?_
        refine zgZ ?_
        refine ae.pure ht rfl ?_
        refine zgZ ?_
        refine ae.pure hcu rfl ?_
        refine zgZ ?_
        refine ae.pure hp rfl ?_
        simp(disch:=try exact dI) only[hd1I,hd6I,push_cast,seval]
       have hd6I:¬ (6:Int)<(d.length:Int):=by omega
       rw[vU hC (by omega)]
       obtain⟨X,hX⟩:∃ X,X=HM d.length (jv 0 d):=⟨_,rfl⟩
       rw[<- hX]
       refine au.intro pn.2 (by simp[pn]) ?_
       simp(disch:=try exact dI) only[pn,hc0,ag,push_cast,seval]
       refine ae.pure hk rfl ?_
       refine zgZ ?_
       refine ae.pure ht rfl ?_
       refine zgZ ?_
       refine ae.pure hcu rfl ?_
       refine zgZ ?_
       refine ae.pure hp rfl ?_
       simp(disch:=try exact dI) only[hd1I,hd6I,push_cast,seval]
       refine aK ([]) (fun y:Nat×Nat=>[(9,.pv (.int .i64 (y.2:Int))),(47,.pv (.int .i64 (y.1:Int)))]) (fun _=>[]) (fun y=>y.1<=d.length/\jv 0 (d.take y.1)=some y.2) (fun y=>d.length - y.1) ((0,0)) ?_;intro e0 σ0 n0 h0;simp(disch:=try exact dI) only[push_cast,seval] at h0;obtain⟨rfl,rfl,rfl⟩:=h0;refine⟨?_,?_,?_⟩
       ·exact qsZ
       ·exact⟨by simp,by simp[jv]⟩
       rintro⟨i,n⟩ ⟨hi,hn⟩
       simp only at hi hn
       have hb:=C7 _ _ _ hn
       have hp16:16 ^ (d.take i).length<=16 ^ 6:=Nat.pow_le_pow_right (by omega) (by simp;omega)
       have hn6:n<16777216:=by omega
       by_cases hlt:i<d.length
       ·have hltI:(i:Int)<(d.length:Int):=by omega
        obtain⟨b,hbc⟩:∃ b,d[i]? = some b:=⟨_,List.getElem?_eq_getElem hlt⟩
        have h208:=C8 b
        have hts:=bc hbc
        unfold mO at h208
        cases hv:eP b with
        | none=>
          rw[hv] at h208
          have hno:jv 0 d=none:=by
           have e:d=d.take i++b::d.drop (i+1):=by rw[<- aU hbc,List.take_append_drop]
           rw[e,oK,hn]
           simp[jv,hv]
          rw[hno] at hX
          rw[show X=(([],0),13) from hX]
          unfold DB
          simp(disch:=try exact dI) only[hltI,hbc,ag,push_cast,seval]
          refine ae.pure h208 rfl ?_
          exact qsZ
        | some v=>
          rw[hv] at h208
          have hv16:=gS hv
          have hvI:¬ (v:Int)<0:=by omega
          simp(disch:=try exact dI) only[hltI,hbc,ag,push_cast,seval]
          refine ae.pure h208 rfl ?_
          simp(disch:=try exact dI) only[hvI,push_cast,seval]
          refine⟨(i+1,16*n+v),bu qsZ,⟨by simp only;omega,?_⟩,by simp only;omega⟩
          simp only
          rw[hts,oK,hn]
          simp[jv,hv]
       ·have hltI:¬ (i:Int)<(d.length:Int):=by omega
        obtain rfl:i=d.length:=by omega
        rw[List.take_length] at hn
        rw[hn] at hX
        have he:=q9 n
        cases hpt:eC n with
        | none=>
          rw[hpt] at he
          simp only[HM,hpt] at hX
          rw[hX]
          unfold DB
          simp(disch:=try exact dI) only[hltI,push_cast,seval]
          refine ae.pure he rfl ?_
          simp(disch:=try exact dI) only[tq,push_cast,seval]
        | some t=>
          rw[hpt] at he
          simp only[HM,hpt] at hX
          rw[hX]
          unfold DB
          simp(disch:=try exact dI) only[hltI,push_cast,seval]
          refine ae.pure he rfl ?_
          simp(disch:=try exact dI) only[tq,push_cast,seval]
          omega
