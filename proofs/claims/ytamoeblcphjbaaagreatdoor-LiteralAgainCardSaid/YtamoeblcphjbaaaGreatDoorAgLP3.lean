/- A part of the proof for LiteralAgainCardSaid. -/
import Derived.Test.YtamoeblcphjbaaaGreatDoorAgLP2
set_option maxRecDepth 100000
set_option linter.unusedVariables false
set_option linter.unusedSimpArgs false
-- many steps
namespace Go.Proofs.YtamoeblcphjbaaaGreatDoor
open Go Go.Ab
attribute [local irreducible] vc
theorem zr (s p:List UInt8):aq Tryz.prog aF 151 [.str s,.str p] (.bool (fO p s)):=by
 have h:=kP s p
 change aq Tryz.prog aF 203 [.str s,.str p] (.bool (fO p s)) at h
 generalize fO p s=b at *
 refine aq.intro K9 (by simp[Rh]) ?_
 simp(disch:=try exact dI) only[Rh,push_cast,seval]
 refine ab.pure h rfl ?_
 simp(disch:=try exact dI) only[push_cast,seval]
theorem Df (s p:List UInt8):aq Tryz.prog aF 260 [.str s,.str p] (.str (if fO p s=true then s.drop p.length else s)):=by
 have h:=kP s p
 change aq Tryz.prog aF 203 [.str s,.str p] (.bool (fO p s)) at h
 have hle:fO p s=true→p.length≤s.length:=fun h=>(of_decide_eq_true h).2
 generalize fO p s=b at *
 refine aq.intro Kw (by simp[Pm]) ?_
 cases b with
 | true=>
   have hl:=hle rfl
   rw[if_pos rfl]
   simp(disch:=try exact dI) only[Pm,push_cast,seval]
   refine ab.pure h rfl ?_
   simp(disch:=try exact dI) only[List.take_length,push_cast,seval]
 | false=>
   rw[if_neg (by decide)]
   simp(disch:=try exact dI) only[Pm,push_cast,seval]
   refine ab.pure h rfl ?_
   simp(disch:=try exact dI) only[push_cast,seval]
theorem Dg (s p:List UInt8):aq Tryz.prog aF 235 [.str s,.str p] (.str (if fO p s=true then s.drop p.length else s)):=by
 have h:=Df s p
 generalize (if fO p s=true then s.drop p.length else s)=q at *
 refine aq.intro Ky (by simp[QX]) ?_
 simp(disch:=try exact dI) only[QX,push_cast,seval]
 refine ab.pure h rfl ?_
 simp(disch:=try exact dI) only[push_cast,seval]
theorem v8 (n:Nat):aq Tryz.prog aF 219 [.int .i64 (n:Int)] (.bool (decide (n≤1114111∧¬ (55296≤n∧n≤57343)))):=by
 have h0:(0:Int)≤(n:Int):=by omega
 refine aq.intro KA (by simp[LF]) ?_
 by_cases h1:n≤1114111
 ·have h1I:(n:Int)≤1114111:=by omega
  by_cases h2:n<55296
  ·have h2I:(n:Int)<55296:=by omega
   rw[show decide (n≤1114111∧¬ (55296≤n∧n≤57343))=true from decide_eq_true ⟨h1,by omega⟩]
   simp(disch:=try exact dI) only[LF,h0,h1I,h2I,push_cast,seval]
  ·have h2I:¬ (n:Int)<55296:=by omega
   by_cases h3:57343<n
   ·have h3I:(57343:Int)<(n:Int):=by omega
    rw[show decide (n≤1114111∧¬ (55296≤n∧n≤57343))=true from decide_eq_true ⟨h1,by omega⟩]
    simp(disch:=try exact dI) only[LF,h0,h1I,h2I,h3I,push_cast,seval]
   ·have h3I:¬ (57343:Int)<(n:Int):=by omega
    rw[show decide (n≤1114111∧¬ (55296≤n∧n≤57343))=false from decide_eq_false (by omega)]
    simp(disch:=try exact dI) only[LF,h0,h1I,h2I,h3I,push_cast,seval]
 ·have h1I:¬ (n:Int)≤1114111:=by omega
  rw[show decide (n≤1114111∧¬ (55296≤n∧n≤57343))=false from decide_eq_false (by omega)]
  simp(disch:=try exact dI) only[LF,h0,h1I,push_cast,seval]
def BB:Option (List UInt8)→PV
 | some t=>.tup [.str t,.int .i64 0]
 | none=>.tup [.str [],.int .i64 2]
theorem BA (n:Nat):aq Tryz.prog aF 182 [.int .i64 (n:Int)] (BB (fi n)):=by
 have h:=v8 n
 refine aq.intro KN (by simp[Pq]) ?_
 unfold fi
 by_cases hc:n≤1114111∧¬ (55296≤n∧n≤57343)
 ·rw[decide_eq_true hc] at h
  rw[if_pos hc,BB]
  have hw:IntKind.i32.wrap (n:Int)=(n:Int):=by simp[IntKind.wrap,IntKind.bits,IntKind.signed];omega
  simp(disch:=try exact dI) only[Pq,push_cast,seval]
  refine ab.pure h rfl ?_
  simp(disch:=try exact dI) only[hw,push_cast,seval]
 ·rw[decide_eq_false hc] at h
  rw[if_neg hc,BB]
  simp(disch:=try exact dI) only[Pq,push_cast,seval]
  refine ab.pure h rfl ?_
  simp(disch:=try exact dI) only[push_cast,seval]
theorem JE (c:UInt8):(match p8 c with
  | some b=>0≤e9 c [34,92,110,114,116] 0∧e9 c [34,92,110,114,116] 0≤4∧(([34,92,10,13,9]:List UInt8).take ((e9 c [34,92,110,114,116] 0).toNat+1)).drop (e9 c [34,92,110,114,116] 0).toNat=[b]
  | none=>e9 c [34,92,110,114,116] 0 = -1):=by
 have key:∀ c:UInt8,(match p8 c with
  | some b=>decide (0≤e9 c [34,92,110,114,116] 0∧e9 c [34,92,110,114,116] 0≤4∧(([34,92,10,13,9]:List UInt8).take ((e9 c [34,92,110,114,116] 0).toNat+1)).drop (e9 c [34,92,110,114,116] 0).toNat=[b])
  | none=>decide (e9 c [34,92,110,114,116] 0 = -1))=true:=eT (by decide +kernel)
 have h:=key c
 cases hE:p8 c with
 | none=>rw[hE] at h;exact of_decide_eq_true h
 | some b=>rw[hE] at h;exact of_decide_eq_true h
theorem Bu {c b:UInt8}{r:List UInt8}(h:p8 c=some b):gl (c::r)=(([b],1),0):=by
 simp only[gl,h]
theorem Bt {c:UInt8}{r:List UInt8}(h:p8 c=none):gl (c::r)=if fO [117,123] (c::r)=true then wg ((c::r).drop 2) else (([],0),13):=by
 show (match p8 c with
  | some b=>(([b],1),0)
  | none=>if fO [117,123] (c::r)=true then wg ((c::r).drop 2) else (([],0),13))=_
 rw[h]
def Hj (k:Nat):Option Nat→(List UInt8×Nat)×Int
 | none=>(([],0),13)
 | some n=>match fi n with
   | none=>(([],0),16)
   | some t=>((t,k+3),0)
theorem Hi {u:List UInt8}(h:iP 125 u=none):wg u=(([],0),13):=by unfold wg;rw[h]
theorem Bq {u d e:List UInt8}(h:iP 125 u=some (d,e))(hd:d.length<1∨6<d.length):wg u=(([],0),13):=by unfold wg;rw[h];exact if_pos hd
theorem Br {u d e:List UInt8}(h:iP 125 u=some (d,e))(hd:¬ (d.length<1∨6<d.length)):wg u=Hj d.length (lD 0 d):=by
 unfold wg;rw[h]
 refine (if_neg hd).trans ?_
 unfold Hj
 cases lD 0 d with
 | none=>rfl
 | some n=>cases fi n<;>rfl
theorem A1:∀ (l:List UInt8) (n m:Nat),lD n l=some m→m+1≤(n+1)*16 ^ l.length
 | [],n,m,h=>by simp[lD] at h;subst h;simp
 | c::r,n,m,h=>by
   rw[lD] at h
   cases hc:pm c with
   | none=>rw[hc] at h;simp at h
   | some d=>
     rw[hc] at h
     have hd:=m6 hc
     have:=A1 r _ m h
     refine Nat.le_trans this ?_
     rw[List.length_cons,Nat.pow_succ,Nat.mul_comm (16 ^ r.length) 16,← Nat.mul_assoc]
     exact Nat.mul_le_mul_right _ (by omega)
theorem m9:∀ (l:List UInt8) (n:Nat) (c:UInt8) (r:List UInt8),lD n (l++c::r)=(lD n l).bind fun m=>lD m (c::r)
 | [],n,c,r=>rfl
 | b::l,n,c,r=>by
   rw[List.cons_append,lD,lD]
   cases pm b with
   | none=>rfl
   | some d=>exact m9 l _ c r
def Bp (q:(List UInt8×Nat)×Int):PV:=.tup [.str q.1.1,.int .i64 (q.1.2:Int),.int .i64 q.2]
theorem J5 (d:UInt8)(s:List UInt8):nt d s = .tup [.str ((iP d s).getD (s,[])).1,.str ((iP d s).getD (s,[])).2,.bool (iP d s).isSome]:=by
 unfold nt
 cases h:iP d s with
 | none=>rfl
 | some q=>rfl
set_option maxHeartbeats 2000000 in
theorem pr (s:List UInt8)(h0:s≠[])(hs:s.length≤65536):aq Tryz.prog aF 207 [.str s] (Bp (gl s)):=by
 obtain⟨c,r,rfl⟩:∃ c r,s=c::r:=by
  cases s with
  | nil=>exact absurd rfl h0
  | cons c r=>exact⟨c,r,rfl⟩
 have hk:=jF [34,92,110,114,116] c
 have hf:=JE c
 have hc0:(c::r)[0]? = some c:=rfl
 cases hE:p8 c with
 | some b=>
   rw[hE] at hf
   obtain⟨q,hq⟩:∃ q,q=e9 c [34,92,110,114,116] 0:=⟨_,rfl⟩
   rw[← hq] at hf hk
   obtain⟨f1,f2,f3⟩:=hf
   obtain⟨m,rfl⟩:∃ m:Nat,q=m:=⟨q.toNat,by omega⟩
   rw[Int.toNat_natCast] at f3
   have f3':List.drop m (34::List.take m [92,10,13,9])=[b]:=f3
   rw[Bu hE]
   unfold Bp
   have hm:m≤4:=by omega
   refine aq.intro iV (by simp[wW]) ?_
   simp(disch:=try exact dI) only[wW,hc0,ag,push_cast,seval]
   refine ab.pure hk rfl ?_
   simp(disch:=try exact dI) only[f3',push_cast,seval]
 | none=>
   rw[hE] at hf
   rw[Bt hE]
   have hf':e9 c [34,92,110,114,116] 0 = -1:=hf
   rw[hf'] at hk
   have ht:=Dg (c::r) [117,123]
   have hp:=zr (c::r) [117,123]
   rw[show ([117,123]:List UInt8).length=2 from rfl] at ht
   cases hP:fO [117,123] (c::r) with
   | false=>
     rw[hP] at ht hp
     rw[if_neg (by decide)] at ht
     rw[if_neg (by decide)]
     unfold Bp
     have hcu:=BQ 125 (c::r) (by omega)
     rw[J5] at hcu
     generalize ((iP 125 (c::r)).getD (c::r,[])).1=x at *
     generalize ((iP 125 (c::r)).getD (c::r,[])).2=y at *
     generalize (iP 125 (c::r)).isSome=z at *
     refine aq.intro iV (by simp[wW]) ?_
     simp(disch:=try exact dI) only[wW,hc0,ag,push_cast,seval]
     refine ab.pure hk rfl ?_
     simp(disch:=try exact dI) only[push_cast,seval]
     refine ab.pure ht rfl ?_
     simp(disch:=try exact dI) only[push_cast,seval]
     refine ab.pure hcu rfl ?_
     simp(disch:=try exact dI) only[push_cast,seval]
     refine ab.pure hp rfl ?_
     simp(disch:=try exact dI) only[push_cast,seval]
   | true=>
     rw[hP] at ht hp
     rw[if_pos rfl] at ht
     rw[if_pos rfl]
     obtain⟨U,hU⟩:∃ U,U=(c::r).drop 2:=⟨_,rfl⟩
     have hUl:U.length≤65536:=by rw[hU,List.length_drop];omega
     rw[← hU] at ht ⊢
     have hcu:=BQ 125 U (by omega)
     cases hC:iP 125 U with
     | none=>
       simp only[nt,hC] at hcu
       rw[Hi hC]
       unfold Bp
       refine aq.intro iV (by simp[wW]) ?_
       simp(disch:=try exact dI) only[wW,hc0,ag,push_cast,seval]
       refine ab.pure hk rfl ?_
       simp(disch:=try exact dI) only[push_cast,seval]
       refine ab.pure ht rfl ?_
       simp(disch:=try exact dI) only[push_cast,seval]
       refine ab.pure hcu rfl ?_
       simp(disch:=try exact dI) only[push_cast,seval]
       refine ab.pure hp rfl ?_
       simp(disch:=try exact dI) only[push_cast,seval]
     | some q=>
       obtain⟨d,e⟩:=q
       simp only[nt,hC] at hcu
       by_cases hd1:d.length<1
       ·have hd1I:(d.length:Int)<1:=by omega
        rw[Bq hC (.inl hd1)]
        unfold Bp
        refine aq.intro iV (by simp[wW]) ?_
        simp(disch:=try exact dI) only[wW,hc0,ag,push_cast,seval]
        refine ab.pure hk rfl ?_
        simp(disch:=try exact dI) only[push_cast,seval]
        refine ab.pure ht rfl ?_
        simp(disch:=try exact dI) only[push_cast,seval]
        refine ab.pure hcu rfl ?_
        simp(disch:=try exact dI) only[push_cast,seval]
        refine ab.pure hp rfl ?_
        simp(disch:=try exact dI) only[hd1I,push_cast,seval]
       have hd1I:¬ (d.length:Int)<1:=by omega
       by_cases hd6:6<d.length
       ·have hd6I:(6:Int)<(d.length:Int):=by omega
        rw[Bq hC (.inr hd6)]
        unfold Bp
        refine aq.intro iV (by simp[wW]) ?_
        simp(disch:=try exact dI) only[wW,hc0,ag,push_cast,seval]
        refine ab.pure hk rfl ?_
        simp(disch:=try exact dI) only[push_cast,seval]
        refine ab.pure ht rfl ?_
        simp(disch:=try exact dI) only[push_cast,seval]
        refine ab.pure hcu rfl ?_
        simp(disch:=try exact dI) only[push_cast,seval]
        refine ab.pure hp rfl ?_
        simp(disch:=try exact dI) only[hd1I,hd6I,push_cast,seval]
       have hd6I:¬ (6:Int)<(d.length:Int):=by omega
       rw[Br hC (by omega)]
       obtain⟨X,hX⟩:∃ X,X=Hj d.length (lD 0 d):=⟨_,rfl⟩
       rw[← hX]
       refine aq.intro iV (by simp[wW]) ?_
       simp(disch:=try exact dI) only[wW,hc0,ag,push_cast,seval]
       refine ab.pure hk rfl ?_
       simp(disch:=try exact dI) only[push_cast,seval]
       refine ab.pure ht rfl ?_
       simp(disch:=try exact dI) only[push_cast,seval]
       refine ab.pure hcu rfl ?_
       simp(disch:=try exact dI) only[push_cast,seval]
       refine ab.pure hp rfl ?_
       simp(disch:=try exact dI) only[hd1I,hd6I,push_cast,seval]
       refine be ([]) (fun y:Nat×Nat=>[(9,.pv (.int .i64 (y.2:Int))),(47,.pv (.int .i64 (y.1:Int)))]) (fun _=>[]) (fun y=>y.1≤d.length∧lD 0 (d.take y.1)=some y.2) (fun y=>d.length - y.1) ((0,0)) ?_;intro e0 σ0 n0 h0;simp(disch:=try exact dI) only[push_cast,seval] at h0;obtain⟨rfl,rfl,rfl⟩:=h0;refine⟨?_,?_,?_⟩
       ·simp(disch:=try exact dI) only[push_cast,seval]
       ·exact⟨by simp,by simp[lD]⟩
       rintro⟨i,n⟩ ⟨hi,hn⟩
       simp only at hi hn
       have hb:=A1 _ _ _ hn
       have hp16:16 ^ (d.take i).length≤16 ^ 6:=Nat.pow_le_pow_right (by omega) (by simp;omega)
       have hn6:n<16777216:=by omega
       by_cases hlt:i<d.length
       ·have hltI:(i:Int)<(d.length:Int):=by omega
        obtain⟨b,hbc⟩:∃ b,d[i]? = some b:=⟨_,List.getElem?_eq_getElem hlt⟩
        have h208:=A2 b
        have hts:=bh hbc
        unfold Hh at h208
        cases hv:pm b with
        | none=>
          rw[hv] at h208
          have hno:lD 0 d=none:=by
           have e:d=d.take i++b::d.drop (i+1):=by rw[← bV hbc,List.take_append_drop]
           rw[e,m9,hn]
           simp[lD,hv]
          rw[hno] at hX
          rw[show X=(([],0),13) from hX]
          unfold Bp
          simp(disch:=try exact dI) only[hltI,hbc,ag,push_cast,seval]
          refine ab.pure h208 rfl ?_
          simp(disch:=try exact dI) only[push_cast,seval]
        | some v=>
          rw[hv] at h208
          have hv16:=m6 hv
          have hvI:¬ (v:Int)<0:=by omega
          simp(disch:=try exact dI) only[hltI,hbc,ag,push_cast,seval]
          refine ab.pure h208 rfl ?_
          simp(disch:=try exact dI) only[hvI,push_cast,seval]
          refine⟨(i+1,16*n+v),bT qsZ,⟨by simp only;omega,?_⟩,by simp only;omega⟩
          simp only
          rw[hts,m9,hn]
          simp[lD,hv]
       ·have hltI:¬ (i:Int)<(d.length:Int):=by omega
        obtain rfl:i=d.length:=by omega
        rw[List.take_length] at hn
        rw[hn] at hX
        have he:=BA n
        cases hpt:fi n with
        | none=>
          rw[hpt] at he
          simp only[Hj,hpt] at hX
          rw[hX]
          unfold Bp
          simp(disch:=try exact dI) only[hltI,push_cast,seval]
          refine ab.pure he rfl ?_
          simp(disch:=try exact dI) only[BB,push_cast,seval]
        | some t=>
          rw[hpt] at he
          simp only[Hj,hpt] at hX
          rw[hX]
          unfold Bp
          simp(disch:=try exact dI) only[hltI,push_cast,seval]
          refine ab.pure he rfl ?_
          simp(disch:=try exact dI) only[BB,push_cast,seval]
          omega
end Go.Proofs.YtamoeblcphjbaaaGreatDoor
