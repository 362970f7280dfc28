/- A part of the proof for LiteralAgainCardSaid. -/
import Derived.Test.YtamoeblcphjbaaaGreatDoorAgLC22
import Derived.Test.YtamoeblcphjbaaaGreatDoorAgLC4
set_option maxRecDepth 100000
set_option linter.unusedVariables false
set_option linter.unusedSimpArgs false
-- many steps
namespace Go.Proofs.YtamoeblcphjbaaaGreatDoor
open Go Go.Ab
attribute [local irreducible] vc
theorem dX {e:List (Nat×AV)}{σ:List (Nat×Blk)}{new:Nat}(ng:Bool)(x y:AX):js e σ new (.inil ng x y)=fV [] (ou ng (evE e x) (evE e y)):=by
 simp only[js,fV];cases ou ng (evE e x) (evE e y)<;>rfl
theorem qI (ng:Bool)(T:Nat)(p:PV):ou ng (.pv (.iface T p)) (.pv .nili)=some (.pv (.bool ng)):=rfl
theorem dZ (ng:Bool):ou ng (.pv .nili) (.pv .nili)=some (.pv (.bool (!ng))):=rfl
theorem lL {n:Int}(h:-9223372036854775808<n)(h2:n≤9223372036854775807)(c:Nat) :
  aq Tryz.prog aF 42 [.agg [.int .i64 n,.int .i64 (c:Int)]] (.tup [.str (if IsN n c then c8 n c else []),.int .i64 (if IsN n c then 0 else 2)]):=by
 by_cases hn:IsN n c
 ·rw[if_pos hn,if_pos hn];exact xV hn
 ·rw[if_neg hn,if_neg hn];exact xU h h2 hn
theorem Nv (s:List UInt8):Ph s = .tup [.str (pF s).1,.str (pF s).2.1,.bool (pF s).2.2]:=by
 unfold Ph pF
 cases h:p9 s with
 | none=>rfl
 | some q=>rfl
theorem F3 (s:List UInt8):(pF s).1.length+(pF s).2.1.length≤s.length:=by
 unfold pF
 split
 ·rename_i a b h
  rw[(BM 0 h).2]
  simp
 ·simp
theorem bI {T:Nat}{p:PV}(s:List UInt8):aq Tryz.prog (dM T p) 113 [.str s] (.tup [.agg [.int .i64 (bg s).1.1,.int .i64 ((bg s).1.2:Int)],.int .i64 (bg s).2]):=by
 by_cases h0:s=[]
 ·subst h0
  unfold bg
  rw[if_pos rfl]
  refine aq.intro fv (by simp[p6]) ?_
  simp(disch:=try exact dI) only[p6,push_cast,seval]
 have h0b:decide (s=[])=false:=decide_eq_false h0
 by_cases hl:17<s.length
 ·unfold bg
  rw[if_neg h0,if_pos hl]
  have hlI:(17:Int)<(s.length:Int):=by omega
  refine aq.intro fv (by simp[p6]) ?_
  simp(disch:=try exact dI) only[p6,h0b,push_cast,seval]
 rw[← EJ h0 hl]
 have hlI:¬ (17:Int)<(s.length:Int):=by omega
 have hc:=toE (T:=T) (p:=p) (Qy s (by omega))
 rw[Nv] at hc
 have hcl:=F3 s
 unfold vk
 generalize pF s=W at *
 obtain⟨w,r,b⟩:=W
 simp only at hc hcl ⊢
 have ha:=Kj (T:=T) (p:=p) (w++r) (by simp;omega)
 have hbd:=fun n=>wM (s:=w++r) (n:=n) (by simp;omega)
 cases hv:Lib.atoi (w++r) with
 | none=>
   rw[hv] at ha
   simp only[Ki,Cm] at ha
   have ht:=toE (T:=T) (p:=p) (lL (n:=0) (by omega) (by omega) r.length)
   generalize (if IsN 0 r.length then c8 0 r.length else [])=t1 at *
   generalize (if IsN 0 r.length then (0:Int) else 2)=t2 at *
   refine aq.intro fv (by simp[p6]) ?_
   simp(disch:=try exact dI) only[p6,h0b,push_cast,seval]
   refine ab.pure hc rfl ?_
   simp(disch:=try exact dI) only[push_cast,seval]
   refine ab.pure ha rfl ?_
   simp(disch:=try exact dI) only[push_cast,seval]
   refine ab.pure ht rfl ?_
   simp(disch:=try exact dI) only[dX,qI,push_cast,seval]
 | some n=>
   rw[hv] at ha
   simp only[Ki] at ha
   have hb:=hbd n hv
   have ht:=toE (T:=T) (p:=p) (lL (n:=n) (by omega) (by omega) r.length)
   simp only
   by_cases hn:IsN n r.length
   ·rw[if_pos hn,if_pos hn] at ht
    by_cases hd:c8 n r.length=s
    ·rw[hd] at ht
     cases b with
     | true=>
       by_cases hr:r=[]
       ·rw[if_neg (fun h=>h.2.2 rfl hr)]
        subst hr
        rw[List.append_nil] at ha
        refine aq.intro fv (by simp[p6]) ?_
        simp(disch:=try exact dI) only[p6,h0b,push_cast,seval]
        refine ab.pure hc rfl ?_
        simp(disch:=try exact dI) only[push_cast,seval]
        refine ab.pure ha rfl ?_
        simp(disch:=try exact dI) only[push_cast,seval]
        refine ab.pure ht rfl ?_
        simp(disch:=try exact dI) only[dX,dZ,push_cast,seval]
       ·rw[if_pos ⟨hn,hd,fun _=>hr⟩]
        have hrb:decide (r=[])=false:=decide_eq_false hr
        refine aq.intro fv (by simp[p6]) ?_
        simp(disch:=try exact dI) only[p6,h0b,push_cast,seval]
        refine ab.pure hc rfl ?_
        simp(disch:=try exact dI) only[push_cast,seval]
        refine ab.pure ha rfl ?_
        simp(disch:=try exact dI) only[push_cast,seval]
        refine ab.pure ht rfl ?_
        simp(disch:=try exact dI) only[hrb,dX,dZ,push_cast,seval]
     | false=>
       rw[if_pos ⟨hn,hd,fun h=>by cases h⟩]
       refine aq.intro fv (by simp[p6]) ?_
       simp(disch:=try exact dI) only[p6,h0b,push_cast,seval]
       refine ab.pure hc rfl ?_
       simp(disch:=try exact dI) only[push_cast,seval]
       refine ab.pure ha rfl ?_
       simp(disch:=try exact dI) only[push_cast,seval]
       refine ab.pure ht rfl ?_
       simp(disch:=try exact dI) only[dX,dZ,push_cast,seval]
    ·rw[if_neg (fun h=>hd h.2.1)]
     generalize c8 n r.length=t at *
     have htb:(!decide (t=s))=true:=by simp[hd]
     refine aq.intro fv (by simp[p6]) ?_
     simp(disch:=try exact dI) only[p6,h0b,push_cast,seval]
     refine ab.pure hc rfl ?_
     simp(disch:=try exact dI) only[push_cast,seval]
     refine ab.pure ha rfl ?_
     simp(disch:=try exact dI) only[push_cast,seval]
     refine ab.pure ht rfl ?_
     simp(disch:=try exact dI) only[htb,dX,dZ,push_cast,seval]
   ·rw[if_neg hn,if_neg hn] at ht
    rw[if_neg (fun h=>hn h.1)]
    refine aq.intro fv (by simp[p6]) ?_
    simp(disch:=try exact dI) only[p6,h0b,push_cast,seval]
    refine ab.pure hc rfl ?_
    simp(disch:=try exact dI) only[push_cast,seval]
    refine ab.pure ha rfl ?_
    simp(disch:=try exact dI) only[push_cast,seval]
    refine ab.pure ht rfl ?_
    simp(disch:=try exact dI) only[dX,dZ,push_cast,seval]
end Go.Proofs.YtamoeblcphjbaaaGreatDoor
-- many steps
namespace Go.Proofs.YtamoeblcphjbaaaGreatDoor
open Go Go.Ab
attribute [local irreducible] vc
theorem s9 (s:List UInt8)(k:Nat)(hk:k≤8):aq Tryz.prog aF 193 [.str s,.int .i64 (k:Int)] (G3 s (rc k s)):=by
 refine aq.intro KJ (by simp[Pp]) ?_
 by_cases hl:s.length<k
 ·rw[show rc k s=none from if_neg (by omega)]
  simp(disch:=try exact dI) only[Pp,G3,push_cast,seval]
 ·obtain⟨R,hR⟩:∃ R,R=rc k s:=⟨_,rfl⟩
  rw[← hR]
  simp(disch:=try exact dI) only[Pp,push_cast,seval]
  refine be ([]) (fun i:Nat=>[(4,.pv (.int .i64 (jo 0 (s.take i)))),(14,.pv (.int .i64 (i:Int)))]) (fun _=>[]) (fun i=>i≤k∧(s.take i).all isD=true) (fun i=>k - i) (0) ?_;intro e0 σ0 n0 h0;simp(disch:=try exact dI) only[push_cast,seval] at h0;obtain⟨rfl,rfl,rfl⟩:=h0;refine⟨?_,?_,?_⟩
  ·simp(disch:=try exact dI) only[push_cast,seval]
   rfl
  ·exact⟨by omega,by simp⟩
  rintro i ⟨hi,hd⟩
  have hdl:=Ns hd (by simp;omega)
  by_cases hlt:i<k
  ·obtain⟨c,hc⟩:∃ c,s[i]? = some c:=⟨_,List.getElem?_eq_getElem (by omega)⟩
   have hcl:=c.toNat_lt
   have hw:=gu (n:=(c.toNat:Int)) (by omega) (by omega)
   have hts:=bh hc
   by_cases hcd:isD c=true
   ·have hb:=gS hcd
    have hin:=dQ (n:=(c.toNat:Int)) (lo:=48) (hi:=57) ⟨by omega,by omega⟩
    have hw2:=gu (n:=(c.toNat:Int) - 48) (by omega) (by omega)
    have hdv:jo 0 (s.take (i+1))=10*jo 0 (s.take i)+((c.toNat:Int) - 48):=by rw[hts,jJ]
    have hd2:(s.take (i+1)).all isD=true:=by rw[hts,List.all_append,hd];simp[hcd]
    simp(disch:=try exact dI) only[hc,ag,hw,push_cast,seval]
    refine ab.pure hin rfl ?_
    simp(disch:=try exact dI) only[hc,ag,hw2,push_cast,seval]
    exact⟨i+1,bT (by simp(disch:=try exact dI) only[hdv,push_cast,seval]),⟨by omega,hd2⟩,by omega⟩
   ·have hin:=m4 (n:=(c.toNat:Int)) (lo:=48) (hi:=57) (fun h=>hcd (by simp[isD];omega))
    have hnone:R=none:=by
     rw[hR]
     refine if_neg fun h=>hcd ?_
     exact List.all_eq_true.1 h.2 c (List.mem_of_getElem? (i:=i) (by rw[List.getElem?_take_of_lt hlt];exact hc))
    rw[hnone]
    simp(disch:=try exact dI) only[hc,ag,hw,push_cast,seval]
    refine ab.pure hin rfl ?_
    simp(disch:=try exact dI) only[G3,push_cast,seval]
  ·have hik:i=k:=by omega
   subst hik
   have hsome:R=some (jo 0 (s.take i),s.drop i):=by rw[hR];exact if_pos ⟨by omega,hd⟩
   rw[hsome]
   simp(disch:=try exact dI) only[G3,List.take_length,push_cast,seval]
theorem kP (s p:List UInt8):aq Tryz.prog aF 203 [.str s,.str p] (.bool (decide (s.take p.length=p∧p.length≤s.length))):=by
 refine aq.intro KH (by simp[OL]) ?_
 by_cases hl:p.length≤s.length
 ·by_cases he:s.take p.length=p
  ·rw[show decide (s.take p.length=p∧p.length≤s.length)=true from decide_eq_true ⟨he,hl⟩]
   simp(disch:=try exact dI) only[OL,he,push_cast,seval]
  ·rw[show decide (s.take p.length=p∧p.length≤s.length)=false from decide_eq_false (fun h=>he h.1)]
   simp(disch:=try exact dI) only[OL,he,push_cast,seval]
 ·rw[show decide (s.take p.length=p∧p.length≤s.length)=false from decide_eq_false (fun h=>hl h.2)]
  simp(disch:=try exact dI) only[OL,push_cast,seval]
def fO (p s:List UInt8):Bool:=decide (s.take p.length=p∧p.length≤s.length)
theorem BO (s p:List UInt8):aq Tryz.prog aF 224 [.str s,.str p] (.tup [.str (if fO p s=true then s.drop p.length else s),.bool (fO p s)]):=by
 have hp:=kP s p
 have hl:fO p s=true→p.length≤s.length:=fun h=>(of_decide_eq_true h).2
 refine aq.intro Kz (by simp[Po]) ?_
 change aq Tryz.prog aF 203 [.str s,.str p] (.bool (fO p s)) at hp
 cases hb:fO p s with
 | true=>
   have:=hl hb
   rw[hb] at hp
   simp only[if_true]
   simp(disch:=try exact dI) only[Po,push_cast,seval]
   refine ab.pure hp rfl ?_
   simp(disch:=try exact dI) only[List.take_length,push_cast,seval]
 | false=>
   rw[hb] at hp
   simp only[Bool.false_eq_true,if_false]
   simp(disch:=try exact dI) only[Po,push_cast,seval]
   refine ab.pure hp rfl ?_
   simp(disch:=try exact dI) only[push_cast,seval]
theorem tQ (s p:List UInt8):aq Tryz.prog aF 192 [.str s,.str p] (.tup [.str (if fO p s=true then s.drop p.length else s),.bool (fO p s)]):=by
 have h:=BO s p
 generalize (if fO p s=true then s.drop p.length else s)=q at *
 generalize fO p s=b at *
 refine aq.intro KL (by simp[Q3]) ?_
 simp(disch:=try exact dI) only[Q3,push_cast,seval]
 refine ab.pure h rfl ?_
 simp(disch:=try exact dI) only[push_cast,seval]
def Lw (n:Nat):PV:=.int .i64 n
def cR:List (List UInt8)→List Nat→List UInt8→Option (List Int×List UInt8)
 | [],_,s=>some ([],s)
 | _::_,[],_=>none
 | m::ms,k::ks,s=>if fO m s=true then (match rc k (s.drop m.length) with
   | some p=>(cR ms ks p.2).map fun q=>(p.1::q.1,q.2)
   | none=>none) else none
def oH (s:List UInt8):Option (List Int×List UInt8)→PV
 | some p=>.tup [.list (p.1.map (PV.int .i64)),.str p.2,.bool true]
 | none=>.tup [.nils,.str s,.bool false]
theorem oI (s:List UInt8)(ms:List (List UInt8))(ks:List Nat)(hm:ms.length=ks.length)(hl:ms.length≤100)(hk:∀ k,k∈ks→k≤8) :
  aq Tryz.prog aF 190 [.str s,.list (ms.map PV.str),.list (ks.map Lw)] (oH s (cR ms ks s)):=by
 obtain⟨R,hR⟩:∃ R,R=cR ms ks s:=⟨_,rfl⟩
 rw[← hR]
 refine aq.intro KM (by simp[Q4]) ?_
 simp(disch:=try exact dI) only[Q4,push_cast,seval]
 refine be ([(6,0,3,1)]) (fun y:Nat×List Int×List UInt8=>[(6,.olist 0 1 (y.2.1.map (PV.int .i64))),(7,.pv (.str y.2.2)),(15,.pv (.int .i64 (y.1:Int)))]) (fun _=>[]) (fun y=>y.1≤ms.length∧y.2.1.length≤y.1∧R=(cR (ms.drop y.1) (ks.drop y.1) y.2.2).map fun q=>(y.2.1++q.1,q.2)) (fun y=>ms.length - y.1) ((0,[],s)) ?_;intro e0 σ0 n0 h0;simp(disch:=try exact dI) only[push_cast,seval] at h0;obtain⟨rfl,rfl,rfl⟩:=h0;refine⟨?_,?_,?_⟩
 ·simp(disch:=try exact dI) only[push_cast,seval]
 ·exact⟨by simp,by simp,by simp[hR]⟩
 rintro⟨i,L,r⟩ ⟨h1,h2,h3⟩
 simp only at h1 h2 h3
 by_cases hlt:i<ms.length
 ·obtain⟨m,hmi⟩:∃ m,ms[i]? = some m:=⟨_,List.getElem?_eq_getElem hlt⟩
  obtain⟨k,hki⟩:∃ k,ks[i]? = some k:=⟨_,List.getElem?_eq_getElem (by omega)⟩
  have hmp:(ms.map PV.str)[i]? = some (.str m):=by simp[hmi]
  have hkp:(ks.map Lw)[i]? = some (.int .i64 (k:Int)):=by simp[hki,Lw]
  have hk8:=hk k (List.mem_of_getElem? hki)
  have hc:=tQ r m
  rw[bV hmi,bV hki] at h3
  simp only[cR] at h3
  cases hb:fO m r with
  | false=>
    rw[hb] at hc h3
    simp only[Bool.false_eq_true,if_false,Option.map_none] at hc h3
    rw[h3]
    simp(disch:=try exact dI) only[hmp,push_cast,seval]
    refine ab.pure hc rfl ?_
    simp(disch:=try exact dI) only[oH,push_cast,seval]
  | true=>
    rw[hb] at hc h3
    simp only[if_true] at hc h3
    have hn:=s9 (r.drop m.length) k hk8
    cases hv:rc k (r.drop m.length) with
    | none=>
      rw[hv] at hn h3
      simp only[G3,Option.map_none] at hn h3
      rw[h3]
      simp(disch:=try exact dI) only[hmp,push_cast,seval]
      refine ab.pure hc rfl ?_
      simp(disch:=try exact dI) only[hkp,push_cast,seval]
      refine ab.pure hn rfl ?_
      simp(disch:=try exact dI) only[oH,push_cast,seval]
    | some p=>
      rw[hv] at hn h3
      simp only[G3] at hn h3
      simp(disch:=try exact dI) only[hmp,push_cast,seval]
      refine ab.pure hc rfl ?_
      simp(disch:=try exact dI) only[hkp,push_cast,seval]
      refine ab.pure hn rfl ?_
      simp(disch:=try exact dI) only[push_cast,seval]
      exact⟨(i+1,L++[p.1],p.2),bT (by simp(disch:=try exact dI) only[List.map_append,push_cast,seval]),⟨by simp only;omega,by simp;omega,by rw[h3,Option.map_map];congr 1;funext q;simp⟩,by simp only;omega⟩
 ·have hi:i=ms.length:=by omega
  have hd1:ms.drop i=[]:=List.drop_eq_nil_of_le (by omega)
  rw[hd1] at h3
  simp only[cR,Option.map_some,List.append_nil] at h3
  rw[h3]
  simp(disch:=try exact dI) only[oH,push_cast,seval]
end Go.Proofs.YtamoeblcphjbaaaGreatDoor
-- many steps
namespace Go.Proofs.YtamoeblcphjbaaaGreatDoor
open Go Go.Ab
attribute [local irreducible] vc
def lu (y m d:Int):Int×Int:=if 1≤y∧y≤9999∧1≤m∧m≤12∧1≤d∧d≤mdI y m then (iO y m.toNat d - 719162,0) else (0,17)
theorem rM {y m d:Int}(h:1≤y∧y≤9999∧1≤m∧m≤12∧1≤d∧d≤mdI y m):DateOk y m.toNat d∧((m.toNat:Nat):Int)=m:=by
 have e:((m.toNat:Nat):Int)=m:=by omega
 exact⟨⟨h.1,h.2.1,by omega,by omega,h.2.2.2.2.1,by rw[e];exact h.2.2.2.2.2⟩,e⟩
theorem J3 {y m d:Int}(h:¬ (1≤y∧y≤9999∧1≤m∧m≤12∧1≤d∧d≤mdI y m))(k:Nat)(hk:m=k):¬ DateOk y k d:=by
 intro hd
 subst hk
 exact h ⟨hd.y1,hd.y2,by have:=hd.m1;omega,by have:=hd.m2;omega,hd.d1,hd.d2⟩
theorem Hn (y m d:Int):aq Tryz.prog aF 191 [.int .i64 y,.int .i64 m,.int .i64 d] (.tup [.int .i64 (lu y m d).1,.int .i64 (lu y m d).2]):=by
 unfold lu
 by_cases h:1≤y∧y≤9999∧1≤m∧m≤12∧1≤d∧d≤mdI y m
 ·rw[if_pos h]
  obtain⟨h1,h2⟩:=rM h
  have:=Nt h1
  rwa [h2] at this
 ·rw[if_neg h]
  exact Nu (J3 h)
theorem Hp (y m d:Int):(lu y m d).2=0∨(lu y m d).2=17:=by unfold lu;split<;>simp
theorem kw:∀ {ms:List (List UInt8)} {ks:List Nat} {s:List UInt8} {p:List Int×List UInt8},cR ms ks s=some p→p.1.length=ms.length
 | [],_,s,p,h=>by simp only[cR] at h;cases h;rfl
 | m::ms,[],s,p,h=>by simp[cR] at h
 | m::ms,k::ks,s,p,h=>by
   simp only[cR] at h
   split at h
   ·cases hn:rc k (s.drop m.length) with
    | none=>rw[hn] at h;cases h
    | some q=>
      rw[hn] at h
      simp only[Option.map_eq_some_iff] at h
      obtain⟨r,hr,rfl⟩:=h
      simp[kw hr]
   ·cases h
def cn (s:List UInt8):Int×Int:=
 match cR [[],[45],[45]] [4,2,2] s with
 | some ([y,m,d],[])=>lu y m d
 | _=>(0,13)
theorem rE1 (sz:Nat)(l:List PV):gH sz l 1=fP sz l 1 l[1]?:=rfl
theorem rE2 (sz:Nat)(l:List PV):gH sz l 2=fP sz l 2 l[2]?:=rfl
theorem IU (s:List UInt8):aq Tryz.prog aF 128 [.str s] (.tup [.int .i64 (cn s).1,.int .i64 (cn s).2]):=by
 have hn:=oI s [[],[45],[45]] [4,2,2] rfl (by simp) (by simp)
 simp only[List.map_cons,List.map_nil,Lw] at hn
 unfold cn
 cases hv:cR [[],[45],[45]] [4,2,2] s with
 | none=>
   rw[hv] at hn
   simp only[oH] at hn
   refine aq.intro r8 (by simp[Lf]) ?_
   simp(disch:=try exact dI) only[Lf,push_cast,seval]
   refine ab.pure hn rfl ?_
   simp(disch:=try exact dI) only[push_cast,seval]
 | some p=>
   have hl:=kw hv
   obtain⟨l,r⟩:=p
   simp only at hl
   obtain⟨y,m,d,rfl⟩:∃ y m d,l=[y,m,d]:=by
    match l,hl with
    | [y,m,d],_=>exact⟨y,m,d,rfl⟩
   rw[hv] at hn
   simp only[oH,List.map_cons,List.map_nil] at hn
   cases r with
   | nil=>
     have hd:=Hn y m d
     refine aq.intro r8 (by simp[Lf]) ?_
     simp(disch:=try exact dI) only[Lf,push_cast,seval]
     refine ab.pure hn rfl ?_
     simp(disch:=try exact dI) only[rE1,rE2,push_cast,seval]
     refine ae hd rfl ?_
     simp(disch:=try exact dI) only[push_cast,seval]
   | cons c r=>
     have hcr:(!decide (c::r=[]))=true:=by simp
     refine aq.intro r8 (by simp[Lf]) ?_
     simp(disch:=try exact dI) only[Lf,push_cast,seval]
     refine ab.pure hn rfl ?_
     simp(disch:=try exact dI) only[hcr,push_cast,seval]
theorem ec {m:List UInt8}{ms:List (List UInt8)}{k:Nat}{ks:List Nat}{s:List UInt8}{v:Int}{l:List Int}{r:List UInt8}(h:cR (m::ms) (k::ks) s=some (v::l,r)) :
  k≤(s.drop m.length).length∧((s.drop m.length).take k).all isD=true∧v=jo 0 ((s.drop m.length).take k)∧cR ms ks ((s.drop m.length).drop k)=some (l,r):=by
 simp only[cR] at h
 split at h
 ·unfold rc at h
  split at h
  ·rename_i hc
   split at hc
   ·rename_i hd
    cases hc
    simp only[Option.map_eq_some_iff] at h
    obtain⟨a,ha,he⟩:=h
    cases he
    exact⟨hd.1,hd.2,rfl,ha⟩
   ·cases hc
  ·cases h
 ·cases h
end Go.Proofs.YtamoeblcphjbaaaGreatDoor
