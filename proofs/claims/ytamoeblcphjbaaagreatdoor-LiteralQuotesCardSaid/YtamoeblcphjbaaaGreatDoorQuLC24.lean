/- A part of the proof for LiteralQuotesCardSaid. -/
import Derived.Test.YtamoeblcphjbaaaGreatDoorQuLC22
import Derived.Test.YtamoeblcphjbaaaGreatDoorQuLC3
set_option maxRecDepth 100000
set_option linter.unusedVariables false
set_option linter.unusedSimpArgs false
-- many steps
namespace Go.Proofs.YtamoeblcphjbaaaGreatDoor
open Go Go.Ab
attribute [local irreducible] vc
theorem du {e:List (Nat×AV)}{σ:List (Nat×Blk)}{new:Nat}(ng:Bool)(x y:AX):eD e σ new (.inil ng x y)=cI [] (mD ng (evE e x) (evE e y)):=by
 simp only[eD,cI];cases mD ng (evE e x) (evE e y)<;>rfl
theorem o7 (ng:Bool)(T:Nat)(p:PV):mD ng (.pv (.iface T p)) (.pv .nili)=some (.pv (.bool ng)):=rfl
theorem dv (ng:Bool):mD ng (.pv .nili) (.pv .nili)=some (.pv (.bool (!ng))):=rfl
theorem j0 {n:Int}(h:-9223372036854775808<n)(h2:n≤9223372036854775807)(c:Nat) :
  aw Tryz.prog aF 42 [.agg [.int .i64 n,.int .i64 (c:Int)]] (.tup [.str (if IsN n c then nV n c else []),.int .i64 (if IsN n c then 0 else 2)]):=by
 by_cases hn:IsN n c
 ·rw[if_pos hn,if_pos hn];exact Ll hn
 ·rw[if_neg hn,if_neg hn];exact w7 h h2 hn
theorem M1 (s:List UInt8):Ox s = .tup [.str (nW s).1,.str (nW s).2.1,.bool (nW s).2.2]:=by
 unfold Ox nW
 cases h:oy s with
 | none=>rfl
 | some q=>rfl
theorem Fo (s:List UInt8):(nW s).1.length+(nW s).2.1.length≤s.length:=by
 unfold nW
 split
 ·rename_i a b h
  rw[(A9 0 h).2]
  simp
 ·simp
theorem bp {T:Nat}{p:PV}(s:List UInt8):aw Tryz.prog (di T p) 113 [.str s] (.tup [.agg [.int .i64 (aW s).1.1,.int .i64 ((aW s).1.2:Int)],.int .i64 (aW s).2]):=by
 by_cases h0:s=[]
 ·subst h0
  unfold aW
  rw[if_pos rfl]
  refine aw.intro eB (by simp[ow]) ?_
  simp(maxSteps:=9^7) (disch:=first|exact dI|fail) only[ow,push_cast,seval]
 have h0b:decide (s=[])=false:=decide_eq_false h0
 by_cases hl:17<s.length
 ·unfold aW
  rw[if_neg h0,if_pos hl]
  have hlI:(17:Int)<(s.length:Int):=by omega
  refine aw.intro eB (by simp[ow]) ?_
  simp(maxSteps:=9^7) (disch:=first|exact dI|fail) only[ow,h0b,push_cast,seval]
 rw[← D0 h0 hl]
 have hlI:¬ (17:Int)<(s.length:Int):=by omega
 have hc:=toE (T:=T) (p:=p) (PG s (by omega))
 rw[M1] at hc
 have hcl:=Fo s
 unfold tN
 generalize nW s=W at *
 obtain⟨w,r,b⟩:=W
 simp only at hc hcl ⊢
 have ha:=JO (T:=T) (p:=p) (w++r) (by simp;omega)
 have hbd:=fun n=>vQ (s:=w++r) (n:=n) (by simp;omega)
 cases hv:Lib.atoi (w++r) with
 | none=>
   rw[hv] at ha
   simp only[JN,BP] at ha
   have ht:=toE (T:=T) (p:=p) (j0 (n:=0) (by omega) (by omega) r.length)
   generalize (if IsN 0 r.length then nV 0 r.length else [])=t1 at *
   generalize (if IsN 0 r.length then (0:Int) else 2)=t2 at *
   refine aw.intro eB (by simp[ow]) ?_
   simp(maxSteps:=9^7) (disch:=first|exact dI|fail) only[ow,h0b,push_cast,seval]
   refine ab.pure hc rfl ?_
   simp(maxSteps:=9^7) (disch:=first|exact dI|fail) only[push_cast,seval]
   refine ab.pure ha rfl ?_
   simp(maxSteps:=9^7) (disch:=first|exact dI|fail) only[push_cast,seval]
   refine ab.pure ht rfl ?_
   simp(maxSteps:=9^7) (disch:=first|exact dI|fail) only[du,o7,push_cast,seval]
 | some n=>
   rw[hv] at ha
   simp only[JN] at ha
   have hb:=hbd n hv
   have ht:=toE (T:=T) (p:=p) (j0 (n:=n) (by omega) (by omega) r.length)
   simp only
   by_cases hn:IsN n r.length
   ·rw[if_pos hn,if_pos hn] at ht
    by_cases hd:nV n r.length=s
    ·rw[hd] at ht
     cases b with
     | true=>
       by_cases hr:r=[]
       ·rw[if_neg (fun h=>h.2.2 rfl hr)]
        subst hr
        rw[List.append_nil] at ha
        refine aw.intro eB (by simp[ow]) ?_
        simp(maxSteps:=9^7) (disch:=first|exact dI|fail) only[ow,h0b,push_cast,seval]
        refine ab.pure hc rfl ?_
        simp(maxSteps:=9^7) (disch:=first|exact dI|fail) only[push_cast,seval]
        refine ab.pure ha rfl ?_
        simp(maxSteps:=9^7) (disch:=first|exact dI|fail) only[push_cast,seval]
        refine ab.pure ht rfl ?_
        simp(maxSteps:=9^7) (disch:=first|exact dI|fail) only[du,dv,push_cast,seval]
       ·rw[if_pos ⟨hn,hd,fun _=>hr⟩]
        have hrb:decide (r=[])=false:=decide_eq_false hr
        refine aw.intro eB (by simp[ow]) ?_
        simp(maxSteps:=9^7) (disch:=first|exact dI|fail) only[ow,h0b,push_cast,seval]
        refine ab.pure hc rfl ?_
        simp(maxSteps:=9^7) (disch:=first|exact dI|fail) only[push_cast,seval]
        refine ab.pure ha rfl ?_
        simp(maxSteps:=9^7) (disch:=first|exact dI|fail) only[push_cast,seval]
        refine ab.pure ht rfl ?_
        simp(maxSteps:=9^7) (disch:=first|exact dI|fail) only[hrb,du,dv,push_cast,seval]
     | false=>
       rw[if_pos ⟨hn,hd,fun h=>by cases h⟩]
       refine aw.intro eB (by simp[ow]) ?_
       simp(maxSteps:=9^7) (disch:=first|exact dI|fail) only[ow,h0b,push_cast,seval]
       refine ab.pure hc rfl ?_
       simp(maxSteps:=9^7) (disch:=first|exact dI|fail) only[push_cast,seval]
       refine ab.pure ha rfl ?_
       simp(maxSteps:=9^7) (disch:=first|exact dI|fail) only[push_cast,seval]
       refine ab.pure ht rfl ?_
       simp(maxSteps:=9^7) (disch:=first|exact dI|fail) only[du,dv,push_cast,seval]
    ·rw[if_neg (fun h=>hd h.2.1)]
     generalize nV n r.length=t at *
     have htb:(!decide (t=s))=true:=by simp[hd]
     refine aw.intro eB (by simp[ow]) ?_
     simp(maxSteps:=9^7) (disch:=first|exact dI|fail) only[ow,h0b,push_cast,seval]
     refine ab.pure hc rfl ?_
     simp(maxSteps:=9^7) (disch:=first|exact dI|fail) only[push_cast,seval]
     refine ab.pure ha rfl ?_
     simp(maxSteps:=9^7) (disch:=first|exact dI|fail) only[push_cast,seval]
     refine ab.pure ht rfl ?_
     simp(maxSteps:=9^7) (disch:=first|exact dI|fail) only[htb,du,dv,push_cast,seval]
   ·rw[if_neg hn,if_neg hn] at ht
    rw[if_neg (fun h=>hn h.1)]
    refine aw.intro eB (by simp[ow]) ?_
    simp(maxSteps:=9^7) (disch:=first|exact dI|fail) only[ow,h0b,push_cast,seval]
    refine ab.pure hc rfl ?_
    simp(maxSteps:=9^7) (disch:=first|exact dI|fail) only[push_cast,seval]
    refine ab.pure ha rfl ?_
    simp(maxSteps:=9^7) (disch:=first|exact dI|fail) only[push_cast,seval]
    refine ab.pure ht rfl ?_
    simp(maxSteps:=9^7) (disch:=first|exact dI|fail) only[du,dv,push_cast,seval]
end Go.Proofs.YtamoeblcphjbaaaGreatDoor
set_option maxRecDepth 100000
set_option linter.unusedVariables false
set_option linter.unusedSimpArgs false
-- many steps
namespace Go.Proofs.YtamoeblcphjbaaaGreatDoor
open Go Go.Ab
attribute [local irreducible] vc
theorem rz (s:List UInt8)(k:Nat)(hk:k≤8):aw Tryz.prog aF 193 [.str s,.int .i64 (k:Int)] (Gu s (uh k s)):=by
 refine aw.intro Kg (by simp[OD]) ?_
 by_cases hl:s.length<k
 ·rw[show uh k s=none from if_neg (by omega)]
  simp(maxSteps:=9^7) (disch:=first|exact dI|fail) only[OD,Gu,push_cast,seval]
 ·obtain⟨R,hR⟩:∃ R,R=uh k s:=⟨_,rfl⟩
  rw[← hR]
  simp(maxSteps:=9^7) (disch:=first|exact dI|fail) only[OD,push_cast,seval]
  refine bg ([]) (fun i:Nat=>[(4,.pv (.int .i64 (jw 0 (s.take i)))),(14,.pv (.int .i64 (i:Int)))]) (fun _=>[]) (fun i=>i≤k∧(s.take i).all isD=true) (fun i=>k - i) (0) ?_;intro e0 σ0 n0 h0;simp(maxSteps:=9^7) (disch:=first|exact dI|fail) only[push_cast,seval] at h0;obtain⟨rfl,rfl,rfl⟩:=h0;refine⟨?_,?_,?_⟩
  ·simp(maxSteps:=9^7) (disch:=first|exact dI|fail) only[push_cast,seval]
   rfl
  ·exact⟨by omega,by simp⟩
  rintro i ⟨hi,hd⟩
  have hdl:=MS hd (by simp;omega)
  by_cases hlt:i<k
  ·obtain⟨c,hc⟩:∃ c,s[i]? = some c:=⟨_,List.getElem?_eq_getElem (by omega)⟩
   have hcl:=c.toNat_lt
   have hw:=fm (n:=(c.toNat:Int)) (by omega) (by omega)
   have hts:=bt hc
   by_cases hcd:isD c=true
   ·have hb:=jh hcd
    have hin:=ep (n:=(c.toNat:Int)) (lo:=48) (hi:=57) ⟨by omega,by omega⟩
    have hw2:=fm (n:=(c.toNat:Int) - 48) (by omega) (by omega)
    have hdv:jw 0 (s.take (i+1))=10*jw 0 (s.take i)+((c.toNat:Int) - 48):=by rw[hts,lG]
    have hd2:(s.take (i+1)).all isD=true:=by rw[hts,List.all_append,hd];simp[hcd]
    simp(maxSteps:=9^7) (disch:=first|exact dI|fail) only[hc,ag,hw,push_cast,seval]
    refine ab.pure hin rfl ?_
    simp(maxSteps:=9^7) (disch:=first|exact dI|fail) only[hc,ag,hw2,push_cast,seval]
    exact⟨i+1,bM (by simp(maxSteps:=9^7) (disch:=first|exact dI|fail) only[hdv,push_cast,seval]),⟨by omega,hd2⟩,by omega⟩
   ·have hin:=ll (n:=(c.toNat:Int)) (lo:=48) (hi:=57) (fun h=>hcd (by simp[isD];omega))
    have hnone:R=none:=by
     rw[hR]
     refine if_neg fun h=>hcd ?_
     exact List.all_eq_true.1 h.2 c (List.mem_of_getElem? (i:=i) (by rw[List.getElem?_take_of_lt hlt];exact hc))
    rw[hnone]
    simp(maxSteps:=9^7) (disch:=first|exact dI|fail) only[hc,ag,hw,push_cast,seval]
    refine ab.pure hin rfl ?_
    simp(maxSteps:=9^7) (disch:=first|exact dI|fail) only[Gu,push_cast,seval]
  ·have hik:i=k:=by omega
   subst hik
   have hsome:R=some (jw 0 (s.take i),s.drop i):=by rw[hR];exact if_pos ⟨by omega,hd⟩
   rw[hsome]
   simp(maxSteps:=9^7) (disch:=first|exact dI|fail) only[Gu,List.take_length,push_cast,seval]
theorem jj (s p:List UInt8):aw Tryz.prog aF 203 [.str s,.str p] (.bool (decide (s.take p.length=p∧p.length≤s.length))):=by
 refine aw.intro Ke (by simp[Oa]) ?_
 by_cases hl:p.length≤s.length
 ·by_cases he:s.take p.length=p
  ·rw[show decide (s.take p.length=p∧p.length≤s.length)=true from decide_eq_true ⟨he,hl⟩]
   simp(maxSteps:=9^7) (disch:=first|exact dI|fail) only[Oa,he,push_cast,seval]
  ·rw[show decide (s.take p.length=p∧p.length≤s.length)=false from decide_eq_false (fun h=>he h.1)]
   simp(maxSteps:=9^7) (disch:=first|exact dI|fail) only[Oa,he,push_cast,seval]
 ·rw[show decide (s.take p.length=p∧p.length≤s.length)=false from decide_eq_false (fun h=>hl h.2)]
  simp(maxSteps:=9^7) (disch:=first|exact dI|fail) only[Oa,push_cast,seval]
def fl (p s:List UInt8):Bool:=decide (s.take p.length=p∧p.length≤s.length)
theorem Bb (s p:List UInt8):aw Tryz.prog aF 224 [.str s,.str p] (.tup [.str (if fl p s=true then s.drop p.length else s),.bool (fl p s)]):=by
 have hp:=jj s p
 have hl:fl p s=true→p.length≤s.length:=fun h=>(of_decide_eq_true h).2
 refine aw.intro J6 (by simp[OC]) ?_
 change aw Tryz.prog aF 203 [.str s,.str p] (.bool (fl p s)) at hp
 cases hb:fl p s with
 | true=>
   have:=hl hb
   rw[hb] at hp
   simp only[if_true]
   simp(maxSteps:=9^7) (disch:=first|exact dI|fail) only[OC,push_cast,seval]
   refine ab.pure hp rfl ?_
   simp(maxSteps:=9^7) (disch:=first|exact dI|fail) only[List.take_length,push_cast,seval]
 | false=>
   rw[hb] at hp
   simp only[Bool.false_eq_true,if_false]
   simp(maxSteps:=9^7) (disch:=first|exact dI|fail) only[OC,push_cast,seval]
   refine ab.pure hp rfl ?_
   simp(maxSteps:=9^7) (disch:=first|exact dI|fail) only[push_cast,seval]
theorem se (s p:List UInt8):aw Tryz.prog aF 192 [.str s,.str p] (.tup [.str (if fl p s=true then s.drop p.length else s),.bool (fl p s)]):=by
 have h:=Bb s p
 generalize (if fl p s=true then s.drop p.length else s)=q at *
 generalize fl p s=b at *
 refine aw.intro Ki (by simp[Qa]) ?_
 simp(maxSteps:=9^7) (disch:=first|exact dI|fail) only[Qa,push_cast,seval]
 refine ab.pure h rfl ?_
 simp(maxSteps:=9^7) (disch:=first|exact dI|fail) only[push_cast,seval]
def K0 (n:Nat):PV:=.int .i64 n
def dn:List (List UInt8)→List Nat→List UInt8→Option (List Int×List UInt8)
 | [],_,s=>some ([],s)
 | _::_,[],_=>none
 | m::ms,k::ks,s=>if fl m s=true then (match uh k (s.drop m.length) with
   | some p=>(dn ms ks p.2).map fun q=>(p.1::q.1,q.2)
   | none=>none) else none
def mW (s:List UInt8):Option (List Int×List UInt8)→PV
 | some p=>.tup [.list (p.1.map (PV.int .i64)),.str p.2,.bool true]
 | none=>.tup [.nils,.str s,.bool false]
theorem mX (s:List UInt8)(ms:List (List UInt8))(ks:List Nat)(hm:ms.length=ks.length)(hl:ms.length≤100)(hk:∀ k,k∈ks→k≤8) :
  aw Tryz.prog aF 190 [.str s,.list (ms.map PV.str),.list (ks.map K0)] (mW s (dn ms ks s)):=by
 obtain⟨R,hR⟩:∃ R,R=dn ms ks s:=⟨_,rfl⟩
 rw[← hR]
 refine aw.intro Kj (by simp[Qb]) ?_
 simp(maxSteps:=9^7) (disch:=first|exact dI|fail) only[Qb,push_cast,seval]
 refine bg ([(6,0,3,1)]) (fun y:Nat×List Int×List UInt8=>[(6,.olist 0 1 (y.2.1.map (PV.int .i64))),(7,.pv (.str y.2.2)),(15,.pv (.int .i64 (y.1:Int)))]) (fun _=>[]) (fun y=>y.1≤ms.length∧y.2.1.length≤y.1∧R=(dn (ms.drop y.1) (ks.drop y.1) y.2.2).map fun q=>(y.2.1++q.1,q.2)) (fun y=>ms.length - y.1) ((0,[],s)) ?_;intro e0 σ0 n0 h0;simp(maxSteps:=9^7) (disch:=first|exact dI|fail) only[push_cast,seval] at h0;obtain⟨rfl,rfl,rfl⟩:=h0;refine⟨?_,?_,?_⟩
 ·simp(maxSteps:=9^7) (disch:=first|exact dI|fail) only[push_cast,seval]
 ·exact⟨by simp,by simp,by simp[hR]⟩
 rintro⟨i,L,r⟩ ⟨h1,h2,h3⟩
 simp only at h1 h2 h3
 by_cases hlt:i<ms.length
 ·obtain⟨m,hmi⟩:∃ m,ms[i]? = some m:=⟨_,List.getElem?_eq_getElem hlt⟩
  obtain⟨k,hki⟩:∃ k,ks[i]? = some k:=⟨_,List.getElem?_eq_getElem (by omega)⟩
  have hmp:(ms.map PV.str)[i]? = some (.str m):=by simp[hmi]
  have hkp:(ks.map K0)[i]? = some (.int .i64 (k:Int)):=by simp[hki,K0]
  have hk8:=hk k (List.mem_of_getElem? hki)
  have hc:=se r m
  rw[bx hmi,bx hki] at h3
  simp only[dn] at h3
  cases hb:fl m r with
  | false=>
    rw[hb] at hc h3
    simp only[Bool.false_eq_true,if_false,Option.map_none] at hc h3
    rw[h3]
    simp(maxSteps:=9^7) (disch:=first|exact dI|fail) only[hmp,push_cast,seval]
    refine ab.pure hc rfl ?_
    simp(maxSteps:=9^7) (disch:=first|exact dI|fail) only[mW,push_cast,seval]
  | true=>
    rw[hb] at hc h3
    simp only[if_true] at hc h3
    have hn:=rz (r.drop m.length) k hk8
    cases hv:uh k (r.drop m.length) with
    | none=>
      rw[hv] at hn h3
      simp only[Gu,Option.map_none] at hn h3
      rw[h3]
      simp(maxSteps:=9^7) (disch:=first|exact dI|fail) only[hmp,push_cast,seval]
      refine ab.pure hc rfl ?_
      simp(maxSteps:=9^7) (disch:=first|exact dI|fail) only[hkp,push_cast,seval]
      refine ab.pure hn rfl ?_
      simp(maxSteps:=9^7) (disch:=first|exact dI|fail) only[mW,push_cast,seval]
    | some p=>
      rw[hv] at hn h3
      simp only[Gu] at hn h3
      simp(maxSteps:=9^7) (disch:=first|exact dI|fail) only[hmp,push_cast,seval]
      refine ab.pure hc rfl ?_
      simp(maxSteps:=9^7) (disch:=first|exact dI|fail) only[hkp,push_cast,seval]
      refine ab.pure hn rfl ?_
      simp(maxSteps:=9^7) (disch:=first|exact dI|fail) only[push_cast,seval]
      exact⟨(i+1,L++[p.1],p.2),bM (by simp(maxSteps:=9^7) (disch:=first|exact dI|fail) only[List.map_append,push_cast,seval]),⟨by simp only;omega,by simp;omega,by rw[h3,Option.map_map];congr 1;funext q;simp⟩,by simp only;omega⟩
 ·have hi:i=ms.length:=by omega
  have hd1:ms.drop i=[]:=List.drop_eq_nil_of_le (by omega)
  rw[hd1] at h3
  simp only[dn,Option.map_some,List.append_nil] at h3
  rw[h3]
  simp(maxSteps:=9^7) (disch:=first|exact dI|fail) only[mW,push_cast,seval]
end Go.Proofs.YtamoeblcphjbaaaGreatDoor
set_option maxRecDepth 100000
set_option linter.unusedVariables false
set_option linter.unusedSimpArgs false
-- many steps
namespace Go.Proofs.YtamoeblcphjbaaaGreatDoor
open Go Go.Ab
attribute [local irreducible] vc
def kx (y m d:Int):Int×Int:=if 1≤y∧y≤9999∧1≤m∧m≤12∧1≤d∧d≤mdI y m then (A8 y m.toNat d - 719162,0) else (0,17)
theorem qv {y m d:Int}(h:1≤y∧y≤9999∧1≤m∧m≤12∧1≤d∧d≤mdI y m):DateOk y m.toNat d∧((m.toNat:Nat):Int)=m:=by
 have e:((m.toNat:Nat):Int)=m:=by omega
 exact⟨⟨h.1,h.2.1,by omega,by omega,h.2.2.2.2.1,by rw[e];exact h.2.2.2.2.2⟩,e⟩
theorem JB {y m d:Int}(h:¬ (1≤y∧y≤9999∧1≤m∧m≤12∧1≤d∧d≤mdI y m))(k:Nat)(hk:m=k):¬ DateOk y k d:=by
 intro hd
 subst hk
 exact h ⟨hd.y1,hd.y2,by have:=hd.m1;omega,by have:=hd.m2;omega,hd.d1,hd.d2⟩
theorem GN (y m d:Int):aw Tryz.prog aF 191 [.int .i64 y,.int .i64 m,.int .i64 d] (.tup [.int .i64 (kx y m d).1,.int .i64 (kx y m d).2]):=by
 unfold kx
 by_cases h:1≤y∧y≤9999∧1≤m∧m≤12∧1≤d∧d≤mdI y m
 ·rw[if_pos h]
  obtain⟨h1,h2⟩:=qv h
  have:=MT h1
  rwa [h2] at this
 ·rw[if_neg h]
  exact MU (JB h)
theorem GO (y m d:Int):(kx y m d).2=0∨(kx y m d).2=17:=by unfold kx;split<;>simp
theorem iZ:∀ {ms:List (List UInt8)} {ks:List Nat} {s:List UInt8} {p:List Int×List UInt8},dn ms ks s=some p→p.1.length=ms.length
 | [],_,s,p,h=>by simp only[dn] at h;cases h;rfl
 | m::ms,[],s,p,h=>by simp[dn] at h
 | m::ms,k::ks,s,p,h=>by
   simp only[dn] at h
   split at h
   ·cases hn:uh k (s.drop m.length) with
    | none=>rw[hn] at h;cases h
    | some q=>
      rw[hn] at h
      simp only[Option.map_eq_some_iff] at h
      obtain⟨r,hr,rfl⟩:=h
      simp[iZ hr]
   ·cases h
def dw (s:List UInt8):Int×Int:=
 match dn [[],[45],[45]] [4,2,2] s with
 | some ([y,m,d],[])=>kx y m d
 | _=>(0,13)
theorem rE1 (sz:Nat)(l:List PV):fb sz l 1=eU sz l 1 l[1]?:=rfl
theorem rE2 (sz:Nat)(l:List PV):fb sz l 2=eU sz l 2 l[2]?:=rfl
theorem Ip (s:List UInt8):aw Tryz.prog aF 128 [.str s] (.tup [.int .i64 (dw s).1,.int .i64 (dw s).2]):=by
 have hn:=mX s [[],[45],[45]] [4,2,2] rfl (by simp) (by simp)
 simp only[List.map_cons,List.map_nil,K0] at hn
 unfold dw
 cases hv:dn [[],[45],[45]] [4,2,2] s with
 | none=>
   rw[hv] at hn
   simp only[mW] at hn
   refine aw.intro qM (by simp[KL]) ?_
   simp(maxSteps:=9^7) (disch:=first|exact dI|fail) only[KL,push_cast,seval]
   refine ab.pure hn rfl ?_
   simp(maxSteps:=9^7) (disch:=first|exact dI|fail) only[push_cast,seval]
 | some p=>
   have hl:=iZ hv
   obtain⟨l,r⟩:=p
   simp only at hl
   obtain⟨y,m,d,rfl⟩:∃ y m d,l=[y,m,d]:=by
    match l,hl with
    | [y,m,d],_=>exact⟨y,m,d,rfl⟩
   rw[hv] at hn
   simp only[mW,List.map_cons,List.map_nil] at hn
   cases r with
   | nil=>
     have hd:=GN y m d
     refine aw.intro qM (by simp[KL]) ?_
     simp(maxSteps:=9^7) (disch:=first|exact dI|fail) only[KL,push_cast,seval]
     refine ab.pure hn rfl ?_
     simp(maxSteps:=9^7) (disch:=first|exact dI|fail) only[rE1,rE2,push_cast,seval]
     refine ae hd rfl ?_
     simp(maxSteps:=9^7) (disch:=first|exact dI|fail) only[push_cast,seval]
   | cons c r=>
     have hcr:(!decide (c::r=[]))=true:=by simp
     refine aw.intro qM (by simp[KL]) ?_
     simp(maxSteps:=9^7) (disch:=first|exact dI|fail) only[KL,push_cast,seval]
     refine ab.pure hn rfl ?_
     simp(maxSteps:=9^7) (disch:=first|exact dI|fail) only[hcr,push_cast,seval]
theorem dy {m:List UInt8}{ms:List (List UInt8)}{k:Nat}{ks:List Nat}{s:List UInt8}{v:Int}{l:List Int}{r:List UInt8}(h:dn (m::ms) (k::ks) s=some (v::l,r)) :
  k≤(s.drop m.length).length∧((s.drop m.length).take k).all isD=true∧v=jw 0 ((s.drop m.length).take k)∧dn ms ks ((s.drop m.length).drop k)=some (l,r):=by
 simp only[dn] at h
 split at h
 ·unfold uh at h
  split at h
  ·rename_i hc
   split at hc
   ·rename_i hd
    cases hc
    simp only[Option.map_eq_some_iff] at h
    obtain⟨a,ha,he⟩:=h
    cases he
    exact⟨hd.1,hd.2,rfl,ha⟩
   ·cases hc
  ·cases h
 ·cases h
end Go.Proofs.YtamoeblcphjbaaaGreatDoor
