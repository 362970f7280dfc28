/- A part of the proof. -/
import Derived.Test.YtamoeblcphjbaaaGreatDoorPaLP1
set_option maxHeartbeats 16000000
set_option maxRecDepth 100000
set_option linter.unusedVariables false
set_option linter.unusedSimpArgs false
-- many steps
namespace Go.Proofs.YtamoeblcphjbaaaGreatDoor
open Go Go.Ab
attribute [local irreducible] vc
theorem zI (s p:List UInt8):au Tryz.prog aM 151 [.str s,.str p] (.bool (fP p s)):=by
 have h:=kH s p
 change au Tryz.prog aM 203 [.str s,.str p] (.bool (fP p s)) at h
 generalize fP p s=b at *
 refine au.intro Lu (by simp[Sp]) ?_
 simp(disch:=try exact dI) only[Sp,push_cast,seval]
 refine ab.pure h rfl ?_
 exact qsZ
theorem DA (s p:List UInt8):au Tryz.prog aM 260 [.str s,.str p] (.str (if fP p s=true then s.drop p.length else s)):=by
 have h:=kH s p
 change au Tryz.prog aM 203 [.str s,.str p] (.bool (fP p s)) at h
 have hle:fP p s=true→p.length≤s.length:=fun h=>(of_decide_eq_true h).2
 generalize fP p s=b at *
 refine au.intro KM (by simp[Qo]) ?_
 cases b with
 | true=>
   have hl:=hle rfl
   rw[if_pos rfl]
   simp(disch:=try exact dI) only[Qo,push_cast,seval]
   refine ab.pure h rfl ?_
   simp(disch:=try exact dI) only[List.take_length,push_cast,seval]
 | false=>
   rw[if_neg (by decide)]
   simp(disch:=try exact dI) only[Qo,push_cast,seval]
   refine ab.pure h rfl ?_
   exact qsZ
theorem DB (s p:List UInt8):au Tryz.prog aM 235 [.str s,.str p] (.str (if fP p s=true then s.drop p.length else s)):=by
 have h:=DA s p
 generalize (if fP p s=true then s.drop p.length else s)=q at *
 refine au.intro KO (by simp[R6]) ?_
 simp(disch:=try exact dI) only[R6,push_cast,seval]
 refine ab.pure h rfl ?_
 exact qsZ
theorem wD (n:Nat):au Tryz.prog aM 219 [.int .i64 (n:Int)] (.bool (decide (n≤1114111∧¬ (55296≤n∧n≤57343)))):=by
 have h0:(0:Int)≤(n:Int):=by omega
 refine au.intro KQ (by simp[Mj]) ?_
 by_cases h1:n≤1114111
 ·have h1I:(n:Int)≤1114111:=by omega
  by_cases h2:n<55296
  ·have h2I:(n:Int)<55296:=by omega
   rw[show decide (n≤1114111∧¬ (55296≤n∧n≤57343))=true from decide_eq_true ⟨h1,by omega⟩]
   simp(disch:=try exact dI) only[Mj,h0,h1I,h2I,push_cast,seval]
  ·have h2I:¬ (n:Int)<55296:=by omega
   by_cases h3:57343<n
   ·have h3I:(57343:Int)<(n:Int):=by omega
    rw[show decide (n≤1114111∧¬ (55296≤n∧n≤57343))=true from decide_eq_true ⟨h1,by omega⟩]
    simp(disch:=try exact dI) only[Mj,h0,h1I,h2I,h3I,push_cast,seval]
   ·have h3I:¬ (57343:Int)<(n:Int):=by omega
    rw[show decide (n≤1114111∧¬ (55296≤n∧n≤57343))=false from decide_eq_false (by omega)]
    simp(disch:=try exact dI) only[Mj,h0,h1I,h2I,h3I,push_cast,seval]
 ·have h1I:¬ (n:Int)≤1114111:=by omega
  rw[show decide (n≤1114111∧¬ (55296≤n∧n≤57343))=false from decide_eq_false (by omega)]
  simp(disch:=try exact dI) only[Mj,h0,h1I,push_cast,seval]
def rW:Option (List UInt8)→PV
 | some t=>.tup [.str t,.int .i64 0]
 | none=>.tup [.str [],.int .i64 2]
theorem pK (n:Nat):au Tryz.prog aM 182 [.int .i64 (n:Int)] (rW (eQ n)):=by
 have h:=wD n
 refine au.intro K7 (by simp[Qs]) ?_
 unfold eQ
 by_cases hc:n≤1114111∧¬ (55296≤n∧n≤57343)
 ·rw[decide_eq_true hc] at h
  rw[if_pos hc,rW]
  have hw:IntKind.i32.wrap (n:Int)=(n:Int):=by simp[IntKind.wrap,IntKind.bits,IntKind.signed];omega
  simp(disch:=try exact dI) only[Qs,push_cast,seval]
  refine ab.pure h rfl ?_
  simp(disch:=try exact dI) only[hw,push_cast,seval]
 ·rw[decide_eq_false hc] at h
  rw[if_neg hc,rW]
  simp(disch:=try exact dI) only[Qs,push_cast,seval]
  refine ab.pure h rfl ?_
  exact qsZ
theorem JP (c:UInt8):(match pI c with
  | some b=>0≤e6 c [34,92,110,114,116] 0∧e6 c [34,92,110,114,116] 0≤4∧(([34,92,10,13,9]:List UInt8).take ((e6 c [34,92,110,114,116] 0).toNat+1)).drop (e6 c [34,92,110,114,116] 0).toNat=[b]
  | none=>e6 c [34,92,110,114,116] 0 = -1):=by
 have key:∀ c:UInt8,(match pI c with
  | some b=>decide (0≤e6 c [34,92,110,114,116] 0∧e6 c [34,92,110,114,116] 0≤4∧(([34,92,10,13,9]:List UInt8).take ((e6 c [34,92,110,114,116] 0).toNat+1)).drop (e6 c [34,92,110,114,116] 0).toNat=[b])
  | none=>decide (e6 c [34,92,110,114,116] 0 = -1))=true:=og (by decide +kernel)
 have h:=key c
 cases hE:pI c with
 | none=>rw[hE] at h;exact of_decide_eq_true h
 | some b=>rw[hE] at h;exact of_decide_eq_true h
theorem kX {c b:UInt8}{r:List UInt8}(h:pI c=some b):fQ (c::r)=(([b],1),0):=by
 simp only[fQ,h]
theorem Hp {c:UInt8}{r:List UInt8}(h:pI c=none):fQ (c::r)=if fP [117,123] (c::r)=true then xy ((c::r).drop 2) else (([],0),13):=by
 show (match pI c with
  | some b=>(([b],1),0)
  | none=>if fP [117,123] (c::r)=true then xy ((c::r).drop 2) else (([],0),13))=_
 rw[h]
def J2 (k:Nat):Option Nat→(List UInt8×Nat)×Int
 | none=>(([],0),13)
 | some n=>match eQ n with
   | none=>(([],0),16)
   | some t=>((t,k+3),0)
theorem Hn {u:List UInt8}(h:fV 125 u=none):xy u=(([],0),13):=by unfold xy;rw[h]
theorem BS {u d e:List UInt8}(h:fV 125 u=some (d,e))(hd:d.length<1∨6<d.length):xy u=(([],0),13):=by unfold xy;rw[h];exact if_pos hd
theorem Ho {u d e:List UInt8}(h:fV 125 u=some (d,e))(hd:¬ (d.length<1∨6<d.length)):xy u=J2 d.length (js 0 d):=by
 unfold xy;rw[h]
 refine (if_neg hd).trans ?_
 unfold J2
 cases js 0 d with
 | none=>rfl
 | some n=>cases eQ n<;>rfl
theorem Bu:∀ (l:List UInt8) (n m:Nat),js n l=some m→m+1≤(n+1)*16 ^ l.length
 | [],n,m,h=>by simp[js] at h;subst h;simp
 | c::r,n,m,h=>by
   rw[js] at h
   cases hc:eG c with
   | none=>rw[hc] at h;simp at h
   | some d=>
     rw[hc] at h
     have hd:=gv hc
     have:=Bu r _ m h
     refine Nat.le_trans this ?_
     rw[List.length_cons,Nat.pow_succ,Nat.mul_comm (16 ^ r.length) 16,← Nat.mul_assoc]
     exact Nat.mul_le_mul_right _ (by omega)
theorem nt:∀ (l:List UInt8) (n:Nat) (c:UInt8) (r:List UInt8),js n (l++c::r)=(js n l).bind fun m=>js m (c::r)
 | [],n,c,r=>rfl
 | b::l,n,c,r=>by
   rw[List.cons_append,js,js]
   cases eG b with
   | none=>rfl
   | some d=>exact nt l _ c r
def BR (q:(List UInt8×Nat)×Int):PV:=.tup [.str q.1.1,.int .i64 (q.1.2:Int),.int .i64 q.2]
theorem Kg (d:UInt8)(s:List UInt8):nF d s = .tup [.str ((fV d s).getD (s,[])).1,.str ((fV d s).getD (s,[])).2,.bool (fV d s).isSome]:=by
 unfold nF
 cases h:fV d s with
 | none=>rfl
 | some q=>rfl
theorem pH (s:List UInt8)(h0:s≠[])(hs:s.length≤65536):au Tryz.prog aM 207 [.str s] (BR (fQ s)):=by
 obtain⟨c,r,rfl⟩:∃ c r,s=c::r:=by
  cases s with
  | nil=>exact absurd rfl h0
  | cons c r=>exact⟨c,r,rfl⟩
 have hk:=jG [34,92,110,114,116] c
 have hf:=JP c
 have hc0:(c::r)[0]? = some c:=rfl
 cases hE:pI c with
 | some b=>
   rw[hE] at hf
   obtain⟨q,hq⟩:∃ q,q=e6 c [34,92,110,114,116] 0:=⟨_,rfl⟩
   rw[← hq] at hf hk
   obtain⟨f1,f2,f3⟩:=hf
   obtain⟨m,rfl⟩:∃ m:Nat,q=m:=⟨q.toNat,by omega⟩
   rw[Int.toNat_natCast] at f3
   have f3':List.drop m (34::List.take m [92,10,13,9])=[b]:=f3
   rw[kX hE]
   unfold BR
   have hm:m≤4:=by omega
   refine au.intro iW (by simp[xp]) ?_
   simp(disch:=try exact dI) only[xp,hc0,ae,push_cast,seval]
   refine ab.pure hk rfl ?_
   simp(disch:=try exact dI) only[f3',push_cast,seval]
 | none=>
   rw[hE] at hf
   rw[Hp hE]
   have hf':e6 c [34,92,110,114,116] 0 = -1:=hf
   rw[hf'] at hk
   have ht:=DB (c::r) [117,123]
   have hp:=zI (c::r) [117,123]
   rw[show ([117,123]:List UInt8).length=2 from rfl] at ht
   cases hP:fP [117,123] (c::r) with
   | false=>
     rw[hP] at ht hp
     rw[if_neg (by decide)] at ht
     rw[if_neg (by decide)]
     unfold BR
     have hcu:=B9 125 (c::r) (by omega)
     rw[Kg] at hcu
     generalize ((fV 125 (c::r)).getD (c::r,[])).1=x at *
     generalize ((fV 125 (c::r)).getD (c::r,[])).2=y at *
     generalize (fV 125 (c::r)).isSome=z at *
     refine au.intro iW (by simp[xp]) ?_
     simp(disch:=try exact dI) only[xp,hc0,ae,push_cast,seval]
     refine ab.pure hk rfl ?_
     refine zgZ ?_
     refine ab.pure ht rfl ?_
     refine zgZ ?_
     refine ab.pure hcu rfl ?_
     refine zgZ ?_
     refine ab.pure hp rfl ?_
     exact qsZ
   | true=>
     rw[hP] at ht hp
     rw[if_pos rfl] at ht
     rw[if_pos rfl]
     obtain⟨U,hU⟩:∃ U,U=(c::r).drop 2:=⟨_,rfl⟩
     have hUl:U.length≤65536:=by rw[hU,List.length_drop];omega
     rw[← hU] at ht ⊢
     have hcu:=B9 125 U (by omega)
     cases hC:fV 125 U with
     | none=>
       simp only[nF,hC] at hcu
       rw[Hn hC]
       unfold BR
       refine au.intro iW (by simp[xp]) ?_
       simp(disch:=try exact dI) only[xp,hc0,ae,push_cast,seval]
       refine ab.pure hk rfl ?_
       refine zgZ ?_
       refine ab.pure ht rfl ?_
       refine zgZ ?_
       refine ab.pure hcu rfl ?_
       refine zgZ ?_
       refine ab.pure hp rfl ?_
       exact qsZ
     | some q=>
       obtain⟨d,e⟩:=q
       simp only[nF,hC] at hcu
       by_cases hd1:d.length<1
       ·have hd1I:(d.length:Int)<1:=by omega
        rw[BS hC (.inl hd1)]
        unfold BR
        refine au.intro iW (by simp[xp]) ?_
        simp(disch:=try exact dI) only[xp,hc0,ae,push_cast,seval]
        refine ab.pure hk rfl ?_
        refine zgZ ?_
        refine ab.pure ht rfl ?_
        refine zgZ ?_
        refine ab.pure hcu rfl ?_
        refine zgZ ?_
        refine ab.pure hp rfl ?_
        simp(disch:=try exact dI) only[hd1I,push_cast,seval]
       have hd1I:¬ (d.length:Int)<1:=by omega
       by_cases hd6:6<d.length
       ·have hd6I:(6:Int)<(d.length:Int):=by omega
        rw[BS hC (.inr hd6)]
        unfold BR
        refine au.intro iW (by simp[xp]) ?_
        simp(disch:=try exact dI) only[xp,hc0,ae,push_cast,seval]
        refine ab.pure hk rfl ?_
        refine zgZ ?_
        refine ab.pure ht rfl ?_
        refine zgZ ?_
        refine ab.pure hcu rfl ?_
        refine zgZ ?_
        refine ab.pure hp rfl ?_
        simp(disch:=try exact dI) only[hd1I,hd6I,push_cast,seval]
       have hd6I:¬ (6:Int)<(d.length:Int):=by omega
       rw[Ho hC (by omega)]
       obtain⟨X,hX⟩:∃ X,X=J2 d.length (js 0 d):=⟨_,rfl⟩
       rw[← hX]
       refine au.intro iW (by simp[xp]) ?_
       simp(disch:=try exact dI) only[xp,hc0,ae,push_cast,seval]
       refine ab.pure hk rfl ?_
       refine zgZ ?_
       refine ab.pure ht rfl ?_
       refine zgZ ?_
       refine ab.pure hcu rfl ?_
       refine zgZ ?_
       refine ab.pure hp rfl ?_
       simp(disch:=try exact dI) only[hd1I,hd6I,push_cast,seval]
       refine bf ([]) (fun y:Nat×Nat=>[(9,.pv (.int .i64 (y.2:Int))),(47,.pv (.int .i64 (y.1:Int)))]) (fun _=>[]) (fun y=>y.1≤d.length∧js 0 (d.take y.1)=some y.2) (fun y=>d.length - y.1) ((0,0)) ?_;intro e0 σ0 n0 h0;simp(disch:=try exact dI) only[push_cast,seval] at h0;obtain⟨rfl,rfl,rfl⟩:=h0;refine⟨?_,?_,?_⟩
       ·exact qsZ
       ·exact⟨by simp,by simp[js]⟩
       rintro⟨i,n⟩ ⟨hi,hn⟩
       simp only at hi hn
       have hb:=Bu _ _ _ hn
       have hp16:16 ^ (d.take i).length≤16 ^ 6:=Nat.pow_le_pow_right (by omega) (by simp;omega)
       have hn6:n<16777216:=by omega
       by_cases hlt:i<d.length
       ·have hltI:(i:Int)<(d.length:Int):=by omega
        obtain⟨b,hbc⟩:∃ b,d[i]? = some b:=⟨_,List.getElem?_eq_getElem hlt⟩
        have h208:=Bv b
        have hts:=bA hbc
        unfold lE at h208
        cases hv:eG b with
        | none=>
          rw[hv] at h208
          have hno:js 0 d=none:=by
           have e:d=d.take i++b::d.drop (i+1):=by rw[← aP hbc,List.take_append_drop]
           rw[e,nt,hn]
           simp[js,hv]
          rw[hno] at hX
          rw[show X=(([],0),13) from hX]
          unfold BR
          simp(disch:=try exact dI) only[hltI,hbc,ae,push_cast,seval]
          refine ab.pure h208 rfl ?_
          exact qsZ
        | some v=>
          rw[hv] at h208
          have hv16:=gv hv
          have hvI:¬ (v:Int)<0:=by omega
          simp(disch:=try exact dI) only[hltI,hbc,ae,push_cast,seval]
          refine ab.pure h208 rfl ?_
          simp(disch:=try exact dI) only[hvI,push_cast,seval]
          refine⟨(i+1,16*n+v),bz qsZ,⟨by simp only;omega,?_⟩,by simp only;omega⟩
          simp only
          rw[hts,nt,hn]
          simp[js,hv]
       ·have hltI:¬ (i:Int)<(d.length:Int):=by omega
        obtain rfl:i=d.length:=by omega
        rw[List.take_length] at hn
        rw[hn] at hX
        have he:=pK n
        cases hpt:eQ n with
        | none=>
          rw[hpt] at he
          simp only[J2,hpt] at hX
          rw[hX]
          unfold BR
          simp(disch:=try exact dI) only[hltI,push_cast,seval]
          refine ab.pure he rfl ?_
          simp(disch:=try exact dI) only[rW,push_cast,seval]
        | some t=>
          rw[hpt] at he
          simp only[J2,hpt] at hX
          rw[hX]
          unfold BR
          simp(disch:=try exact dI) only[hltI,push_cast,seval]
          refine ab.pure he rfl ?_
          simp(disch:=try exact dI) only[rW,push_cast,seval]
          omega
end Go.Proofs.YtamoeblcphjbaaaGreatDoor
