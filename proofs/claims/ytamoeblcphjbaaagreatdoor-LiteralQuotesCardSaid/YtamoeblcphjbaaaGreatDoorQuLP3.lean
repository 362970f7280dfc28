/- A part of the proof for LiteralQuotesCardSaid. -/
import Derived.Test.YtamoeblcphjbaaaGreatDoorQuLP2
set_option maxRecDepth 100000
set_option linter.unusedVariables false
set_option linter.unusedSimpArgs false
-- many steps
namespace Go.Proofs.YtamoeblcphjbaaaGreatDoor
open Go Go.Ab
attribute [local irreducible] vc
theorem yF (s p:List UInt8):aw Tryz.prog aF 151 [.str s,.str p] (.bool (fl p s)):=by
 have h:=jj s p
 change aw Tryz.prog aF 203 [.str s,.str p] (.bool (fl p s)) at h
 generalize fl p s=b at *
 refine aw.intro KG (by simp[Qn]) ?_
 simp(maxSteps:=9^7) (disch:=first|exact dI|fail) only[Qn,push_cast,seval]
 refine ab.pure h rfl ?_
 simp(maxSteps:=9^7) (disch:=first|exact dI|fail) only[push_cast,seval]
theorem CG (s p:List UInt8):aw Tryz.prog aF 260 [.str s,.str p] (.str (if fl p s=true then s.drop p.length else s)):=by
 have h:=jj s p
 change aw Tryz.prog aF 203 [.str s,.str p] (.bool (fl p s)) at h
 have hle:fl p s=true→p.length≤s.length:=fun h=>(of_decide_eq_true h).2
 generalize fl p s=b at *
 refine aw.intro J3 (by simp[OA]) ?_
 cases b with
 | true=>
   have hl:=hle rfl
   rw[if_pos rfl]
   simp(maxSteps:=9^7) (disch:=first|exact dI|fail) only[OA,push_cast,seval]
   refine ab.pure h rfl ?_
   simp(maxSteps:=9^7) (disch:=first|exact dI|fail) only[List.take_length,push_cast,seval]
 | false=>
   rw[if_neg (by decide)]
   simp(maxSteps:=9^7) (disch:=first|exact dI|fail) only[OA,push_cast,seval]
   refine ab.pure h rfl ?_
   simp(maxSteps:=9^7) (disch:=first|exact dI|fail) only[push_cast,seval]
theorem CH (s p:List UInt8):aw Tryz.prog aF 235 [.str s,.str p] (.str (if fl p s=true then s.drop p.length else s)):=by
 have h:=CG s p
 generalize (if fl p s=true then s.drop p.length else s)=q at *
 refine aw.intro J5 (by simp[P4]) ?_
 simp(maxSteps:=9^7) (disch:=first|exact dI|fail) only[P4,push_cast,seval]
 refine ab.pure h rfl ?_
 simp(maxSteps:=9^7) (disch:=first|exact dI|fail) only[push_cast,seval]
theorem uS (n:Nat):aw Tryz.prog aF 219 [.int .i64 (n:Int)] (.bool (decide (n≤1114111∧¬ (55296≤n∧n≤57343)))):=by
 have h0:(0:Int)≤(n:Int):=by omega
 refine aw.intro J7 (by simp[K7]) ?_
 by_cases h1:n≤1114111
 ·have h1I:(n:Int)≤1114111:=by omega
  by_cases h2:n<55296
  ·have h2I:(n:Int)<55296:=by omega
   rw[show decide (n≤1114111∧¬ (55296≤n∧n≤57343))=true from decide_eq_true ⟨h1,by omega⟩]
   simp(maxSteps:=9^7) (disch:=first|exact dI|fail) only[K7,h0,h1I,h2I,push_cast,seval]
  ·have h2I:¬ (n:Int)<55296:=by omega
   by_cases h3:57343<n
   ·have h3I:(57343:Int)<(n:Int):=by omega
    rw[show decide (n≤1114111∧¬ (55296≤n∧n≤57343))=true from decide_eq_true ⟨h1,by omega⟩]
    simp(maxSteps:=9^7) (disch:=first|exact dI|fail) only[K7,h0,h1I,h2I,h3I,push_cast,seval]
   ·have h3I:¬ (57343:Int)<(n:Int):=by omega
    rw[show decide (n≤1114111∧¬ (55296≤n∧n≤57343))=false from decide_eq_false (by omega)]
    simp(maxSteps:=9^7) (disch:=first|exact dI|fail) only[K7,h0,h1I,h2I,h3I,push_cast,seval]
 ·have h1I:¬ (n:Int)≤1114111:=by omega
  rw[show decide (n≤1114111∧¬ (55296≤n∧n≤57343))=false from decide_eq_false (by omega)]
  simp(maxSteps:=9^7) (disch:=first|exact dI|fail) only[K7,h0,h1I,push_cast,seval]
def AW:Option (List UInt8)→PV
 | some t=>.tup [.str t,.int .i64 0]
 | none=>.tup [.str [],.int .i64 2]
theorem AU (n:Nat):aw Tryz.prog aF 182 [.int .i64 (n:Int)] (AW (en n)):=by
 have h:=uS n
 refine aw.intro Kk (by simp[OE]) ?_
 unfold en
 by_cases hc:n≤1114111∧¬ (55296≤n∧n≤57343)
 ·rw[decide_eq_true hc] at h
  rw[if_pos hc,AW]
  have hw:IntKind.i32.wrap (n:Int)=(n:Int):=by simp[IntKind.wrap,IntKind.bits,IntKind.signed];omega
  simp(maxSteps:=9^7) (disch:=first|exact dI|fail) only[OE,push_cast,seval]
  refine ab.pure h rfl ?_
  simp(maxSteps:=9^7) (disch:=first|exact dI|fail) only[hw,push_cast,seval]
 ·rw[decide_eq_false hc] at h
  rw[if_neg hc,AW]
  simp(maxSteps:=9^7) (disch:=first|exact dI|fail) only[OE,push_cast,seval]
  refine ab.pure h rfl ?_
  simp(maxSteps:=9^7) (disch:=first|exact dI|fail) only[push_cast,seval]
theorem Jb (c:UInt8):(match ox c with
  | some b=>0≤d8 c [34,92,110,114,116] 0∧d8 c [34,92,110,114,116] 0≤4∧(([34,92,10,13,9]:List UInt8).take ((d8 c [34,92,110,114,116] 0).toNat+1)).drop (d8 c [34,92,110,114,116] 0).toNat=[b]
  | none=>d8 c [34,92,110,114,116] 0 = -1):=by
 have key:∀ c:UInt8,(match ox c with
  | some b=>decide (0≤d8 c [34,92,110,114,116] 0∧d8 c [34,92,110,114,116] 0≤4∧(([34,92,10,13,9]:List UInt8).take ((d8 c [34,92,110,114,116] 0).toNat+1)).drop (d8 c [34,92,110,114,116] 0).toNat=[b])
  | none=>decide (d8 c [34,92,110,114,116] 0 = -1))=true:=jY (by decide +kernel)
 have h:=key c
 cases hE:ox c with
 | none=>rw[hE] at h;exact of_decide_eq_true h
 | some b=>rw[hE] at h;exact of_decide_eq_true h
theorem AM {c b:UInt8}{r:List UInt8}(h:ox c=some b):gr (c::r)=(([b],1),0):=by
 simp only[gr,h]
theorem AL {c:UInt8}{r:List UInt8}(h:ox c=none):gr (c::r)=if fl [117,123] (c::r)=true then Fh ((c::r).drop 2) else (([],0),13):=by
 show (match ox c with
  | some b=>(([b],1),0)
  | none=>if fl [117,123] (c::r)=true then Fh ((c::r).drop 2) else (([],0),13))=_
 rw[h]
def GJ (k:Nat):Option Nat→(List UInt8×Nat)×Int
 | none=>(([],0),13)
 | some n=>match en n with
   | none=>(([],0),16)
   | some t=>((t,k+3),0)
theorem GI {u:List UInt8}(h:gw 125 u=none):Fh u=(([],0),13):=by unfold Fh;rw[h]
theorem AJ {u d e:List UInt8}(h:gw 125 u=some (d,e))(hd:d.length<1∨6<d.length):Fh u=(([],0),13):=by unfold Fh;rw[h];exact if_pos hd
theorem AK {u d e:List UInt8}(h:gw 125 u=some (d,e))(hd:¬ (d.length<1∨6<d.length)):Fh u=GJ d.length (jQ 0 d):=by
 unfold Fh;rw[h]
 refine (if_neg hd).trans ?_
 unfold GJ
 cases jQ 0 d with
 | none=>rfl
 | some n=>cases en n<;>rfl
theorem An:∀ (l:List UInt8) (n m:Nat),jQ n l=some m→m+1≤(n+1)*16 ^ l.length
 | [],n,m,h=>by simp[jQ] at h;subst h;simp
 | c::r,n,m,h=>by
   rw[jQ] at h
   cases hc:nH c with
   | none=>rw[hc] at h;simp at h
   | some d=>
     rw[hc] at h
     have hd:=ln hc
     have:=An r _ m h
     refine Nat.le_trans this ?_
     rw[List.length_cons,Nat.pow_succ,Nat.mul_comm (16 ^ r.length) 16,← Nat.mul_assoc]
     exact Nat.mul_le_mul_right _ (by omega)
theorem lx:∀ (l:List UInt8) (n:Nat) (c:UInt8) (r:List UInt8),jQ n (l++c::r)=(jQ n l).bind fun m=>jQ m (c::r)
 | [],n,c,r=>rfl
 | b::l,n,c,r=>by
   rw[List.cons_append,jQ,jQ]
   cases nH b with
   | none=>rfl
   | some d=>exact lx l _ c r
def AI (q:(List UInt8×Nat)×Int):PV:=.tup [.str q.1.1,.int .i64 (q.1.2:Int),.int .i64 q.2]
theorem JD (d:UInt8)(s:List UInt8):lI d s = .tup [.str ((gw d s).getD (s,[])).1,.str ((gw d s).getD (s,[])).2,.bool (gw d s).isSome]:=by
 unfold lI
 cases h:gw d s with
 | none=>rfl
 | some q=>rfl
set_option maxHeartbeats 2000000 in
theorem nM (s:List UInt8)(h0:s≠[])(hs:s.length≤65536):aw Tryz.prog aF 207 [.str s] (AI (gr s)):=by
 obtain⟨c,r,rfl⟩:∃ c r,s=c::r:=by
  cases s with
  | nil=>exact absurd rfl h0
  | cons c r=>exact⟨c,r,rfl⟩
 have hk:=il [34,92,110,114,116] c
 have hf:=Jb c
 have hc0:(c::r)[0]? = some c:=rfl
 cases hE:ox c with
 | some b=>
   rw[hE] at hf
   obtain⟨q,hq⟩:∃ q,q=d8 c [34,92,110,114,116] 0:=⟨_,rfl⟩
   rw[← hq] at hf hk
   obtain⟨f1,f2,f3⟩:=hf
   obtain⟨m,rfl⟩:∃ m:Nat,q=m:=⟨q.toNat,by omega⟩
   rw[Int.toNat_natCast] at f3
   have f3':List.drop m (34::List.take m [92,10,13,9])=[b]:=f3
   rw[AM hE]
   unfold AI
   have hm:m≤4:=by omega
   refine aw.intro gC (by simp[v7]) ?_
   simp(maxSteps:=9^7) (disch:=first|exact dI|fail) only[v7,hc0,ag,push_cast,seval]
   refine ab.pure hk rfl ?_
   simp(maxSteps:=9^7) (disch:=first|exact dI|fail) only[f3',push_cast,seval]
 | none=>
   rw[hE] at hf
   rw[AL hE]
   have hf':d8 c [34,92,110,114,116] 0 = -1:=hf
   rw[hf'] at hk
   have ht:=CH (c::r) [117,123]
   have hp:=yF (c::r) [117,123]
   rw[show ([117,123]:List UInt8).length=2 from rfl] at ht
   cases hP:fl [117,123] (c::r) with
   | false=>
     rw[hP] at ht hp
     rw[if_neg (by decide)] at ht
     rw[if_neg (by decide)]
     unfold AI
     have hcu:=Bd 125 (c::r) (by omega)
     rw[JD] at hcu
     generalize ((gw 125 (c::r)).getD (c::r,[])).1=x at *
     generalize ((gw 125 (c::r)).getD (c::r,[])).2=y at *
     generalize (gw 125 (c::r)).isSome=z at *
     refine aw.intro gC (by simp[v7]) ?_
     simp(maxSteps:=9^7) (disch:=first|exact dI|fail) only[v7,hc0,ag,push_cast,seval]
     refine ab.pure hk rfl ?_
     simp(maxSteps:=9^7) (disch:=first|exact dI|fail) only[push_cast,seval]
     refine ab.pure ht rfl ?_
     simp(maxSteps:=9^7) (disch:=first|exact dI|fail) only[push_cast,seval]
     refine ab.pure hcu rfl ?_
     simp(maxSteps:=9^7) (disch:=first|exact dI|fail) only[push_cast,seval]
     refine ab.pure hp rfl ?_
     simp(maxSteps:=9^7) (disch:=first|exact dI|fail) only[push_cast,seval]
   | true=>
     rw[hP] at ht hp
     rw[if_pos rfl] at ht
     rw[if_pos rfl]
     obtain⟨U,hU⟩:∃ U,U=(c::r).drop 2:=⟨_,rfl⟩
     have hUl:U.length≤65536:=by rw[hU,List.length_drop];omega
     rw[← hU] at ht ⊢
     have hcu:=Bd 125 U (by omega)
     cases hC:gw 125 U with
     | none=>
       simp only[lI,hC] at hcu
       rw[GI hC]
       unfold AI
       refine aw.intro gC (by simp[v7]) ?_
       simp(maxSteps:=9^7) (disch:=first|exact dI|fail) only[v7,hc0,ag,push_cast,seval]
       refine ab.pure hk rfl ?_
       simp(maxSteps:=9^7) (disch:=first|exact dI|fail) only[push_cast,seval]
       refine ab.pure ht rfl ?_
       simp(maxSteps:=9^7) (disch:=first|exact dI|fail) only[push_cast,seval]
       refine ab.pure hcu rfl ?_
       simp(maxSteps:=9^7) (disch:=first|exact dI|fail) only[push_cast,seval]
       refine ab.pure hp rfl ?_
       simp(maxSteps:=9^7) (disch:=first|exact dI|fail) only[push_cast,seval]
     | some q=>
       obtain⟨d,e⟩:=q
       simp only[lI,hC] at hcu
       by_cases hd1:d.length<1
       ·have hd1I:(d.length:Int)<1:=by omega
        rw[AJ hC (.inl hd1)]
        unfold AI
        refine aw.intro gC (by simp[v7]) ?_
        simp(maxSteps:=9^7) (disch:=first|exact dI|fail) only[v7,hc0,ag,push_cast,seval]
        refine ab.pure hk rfl ?_
        simp(maxSteps:=9^7) (disch:=first|exact dI|fail) only[push_cast,seval]
        refine ab.pure ht rfl ?_
        simp(maxSteps:=9^7) (disch:=first|exact dI|fail) only[push_cast,seval]
        refine ab.pure hcu rfl ?_
        simp(maxSteps:=9^7) (disch:=first|exact dI|fail) only[push_cast,seval]
        refine ab.pure hp rfl ?_
        simp(maxSteps:=9^7) (disch:=first|exact dI|fail) only[hd1I,push_cast,seval]
       have hd1I:¬ (d.length:Int)<1:=by omega
       by_cases hd6:6<d.length
       ·have hd6I:(6:Int)<(d.length:Int):=by omega
        rw[AJ hC (.inr hd6)]
        unfold AI
        refine aw.intro gC (by simp[v7]) ?_
        simp(maxSteps:=9^7) (disch:=first|exact dI|fail) only[v7,hc0,ag,push_cast,seval]
        refine ab.pure hk rfl ?_
        simp(maxSteps:=9^7) (disch:=first|exact dI|fail) only[push_cast,seval]
        refine ab.pure ht rfl ?_
        simp(maxSteps:=9^7) (disch:=first|exact dI|fail) only[push_cast,seval]
        refine ab.pure hcu rfl ?_
        simp(maxSteps:=9^7) (disch:=first|exact dI|fail) only[push_cast,seval]
        refine ab.pure hp rfl ?_
        simp(maxSteps:=9^7) (disch:=first|exact dI|fail) only[hd1I,hd6I,push_cast,seval]
       have hd6I:¬ (6:Int)<(d.length:Int):=by omega
       rw[AK hC (by omega)]
       obtain⟨X,hX⟩:∃ X,X=GJ d.length (jQ 0 d):=⟨_,rfl⟩
       rw[← hX]
       refine aw.intro gC (by simp[v7]) ?_
       simp(maxSteps:=9^7) (disch:=first|exact dI|fail) only[v7,hc0,ag,push_cast,seval]
       refine ab.pure hk rfl ?_
       simp(maxSteps:=9^7) (disch:=first|exact dI|fail) only[push_cast,seval]
       refine ab.pure ht rfl ?_
       simp(maxSteps:=9^7) (disch:=first|exact dI|fail) only[push_cast,seval]
       refine ab.pure hcu rfl ?_
       simp(maxSteps:=9^7) (disch:=first|exact dI|fail) only[push_cast,seval]
       refine ab.pure hp rfl ?_
       simp(maxSteps:=9^7) (disch:=first|exact dI|fail) only[hd1I,hd6I,push_cast,seval]
       refine bg ([]) (fun y:Nat×Nat=>[(9,.pv (.int .i64 (y.2:Int))),(47,.pv (.int .i64 (y.1:Int)))]) (fun _=>[]) (fun y=>y.1≤d.length∧jQ 0 (d.take y.1)=some y.2) (fun y=>d.length - y.1) ((0,0)) ?_;intro e0 σ0 n0 h0;simp(maxSteps:=9^7) (disch:=first|exact dI|fail) only[push_cast,seval] at h0;obtain⟨rfl,rfl,rfl⟩:=h0;refine⟨?_,?_,?_⟩
       ·simp(maxSteps:=9^7) (disch:=first|exact dI|fail) only[push_cast,seval]
       ·exact⟨by simp,by simp[jQ]⟩
       rintro⟨i,n⟩ ⟨hi,hn⟩
       simp only at hi hn
       have hb:=An _ _ _ hn
       have hp16:16 ^ (d.take i).length≤16 ^ 6:=Nat.pow_le_pow_right (by omega) (by simp;omega)
       have hn6:n<16777216:=by omega
       by_cases hlt:i<d.length
       ·have hltI:(i:Int)<(d.length:Int):=by omega
        obtain⟨b,hbc⟩:∃ b,d[i]? = some b:=⟨_,List.getElem?_eq_getElem hlt⟩
        have h208:=Ao b
        have hts:=bt hbc
        unfold GE at h208
        cases hv:nH b with
        | none=>
          rw[hv] at h208
          have hno:jQ 0 d=none:=by
           have e:d=d.take i++b::d.drop (i+1):=by rw[← bx hbc,List.take_append_drop]
           rw[e,lx,hn]
           simp[jQ,hv]
          rw[hno] at hX
          rw[show X=(([],0),13) from hX]
          unfold AI
          simp(maxSteps:=9^7) (disch:=first|exact dI|fail) only[hltI,hbc,ag,push_cast,seval]
          refine ab.pure h208 rfl ?_
          simp(maxSteps:=9^7) (disch:=first|exact dI|fail) only[push_cast,seval]
        | some v=>
          rw[hv] at h208
          have hv16:=ln hv
          have hvI:¬ (v:Int)<0:=by omega
          simp(maxSteps:=9^7) (disch:=first|exact dI|fail) only[hltI,hbc,ag,push_cast,seval]
          refine ab.pure h208 rfl ?_
          simp(maxSteps:=9^7) (disch:=first|exact dI|fail) only[hvI,push_cast,seval]
          refine⟨(i+1,16*n+v),bM (by simp(maxSteps:=9^7) (disch:=first|exact dI|fail) only[push_cast,seval]),⟨by simp only;omega,?_⟩,by simp only;omega⟩
          simp only
          rw[hts,lx,hn]
          simp[jQ,hv]
       ·have hltI:¬ (i:Int)<(d.length:Int):=by omega
        obtain rfl:i=d.length:=by omega
        rw[List.take_length] at hn
        rw[hn] at hX
        have he:=AU n
        cases hpt:en n with
        | none=>
          rw[hpt] at he
          simp only[GJ,hpt] at hX
          rw[hX]
          unfold AI
          simp(maxSteps:=9^7) (disch:=first|exact dI|fail) only[hltI,push_cast,seval]
          refine ab.pure he rfl ?_
          simp(maxSteps:=9^7) (disch:=first|exact dI|fail) only[AW,push_cast,seval]
        | some t=>
          rw[hpt] at he
          simp only[GJ,hpt] at hX
          rw[hX]
          unfold AI
          simp(maxSteps:=9^7) (disch:=first|exact dI|fail) only[hltI,push_cast,seval]
          refine ab.pure he rfl ?_
          simp(maxSteps:=9^7) (disch:=first|exact dI|fail) only[AW,push_cast,seval]
          omega
end Go.Proofs.YtamoeblcphjbaaaGreatDoor
