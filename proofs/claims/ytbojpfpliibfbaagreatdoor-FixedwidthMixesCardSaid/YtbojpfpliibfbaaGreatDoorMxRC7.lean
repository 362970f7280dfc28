/- A part of the proof. -/
import Derived.Test.YtbojpfpliibfbaaGreatDoorMxRWN
set_option maxHeartbeats 16000000
set_option maxRecDepth 100000
set_option linter.unusedVariables false
set_option linter.unusedSimpArgs false
namespace Go.Proofs.YtbojpfpliibfbaaGreatDoor
open Go Go.Ab
attribute [local irreducible] vc
def qn (p s:List UInt8):Bool:=decide (s.take p.length=p/\p.length<=s.length)
theorem DF (s p:List UInt8):ag Tryz.prog aq 252 [.str s,.str p] (.tup [.str (if qn p s=true then s.drop p.length else s),.bool (qn p s)]):=by
 have hp:=CK s p
 have hl:qn p s=true->p.length<=s.length:=fun h=>(of_decide_eq_true h).2
 refine ag.intro Rb.2 (by simp[Rb]) ?_
 change ag Tryz.prog aq 149 [.str s,.str p] (.bool (qn p s)) at hp
 cases hb:qn p s with
 | true=>
   have:=hl hb
   rw[hb] at hp
   simp only[if_true]
   simp(disch:=try exact dI) only[Rb,push_cast,seval]
   refine ab.pure hp rfl ?_
   simp(disch:=try exact dI) only[List.take_length,push_cast,seval]
 | false=>
   rw[hb] at hp
   simp only[Bool.false_eq_true,if_false]
   simp(disch:=try exact dI) only[Rb,push_cast,seval]
   refine ab.pure hp rfl ?_
   exact qsZ
theorem ul (s p:List UInt8):ag Tryz.prog aq 212 [.str s,.str p] (.tup [.str (if qn p s=true then s.drop p.length else s),.bool (qn p s)]):=by
 have h:=DF s p
 generalize (if qn p s=true then s.drop p.length else s)=q at *
 generalize qn p s=b at *
 refine ag.intro S8.2 (by simp[S8]) ?_
 simp(disch:=try exact dI) only[S8,push_cast,seval]
 refine ab.pure h rfl ?_
 exact qsZ
def cn:List (List UInt8)->List Nat->List UInt8->Option (List Int×List UInt8)
 | [],_,s=>some ([],s)
 | _::_,[],_=>none
 | m::ms,k::ks,s=>if qn m s=true then (match rz k (s.drop m.length) with
   | some p=>(cn ms ks p.2).map fun q=>(p.1::q.1,q.2)
   | none=>none) else none
def oO (s:List UInt8):Option (List Int×List UInt8)->PV
 | some p=>.tup [.list (p.1.map (PV.int .i64)),.str p.2,.bool true]
 | none=>.tup [.nils,.str s,.bool false]
theorem oP (s:List UInt8)(ms:List (List UInt8))(ks:List Nat)(hm:ms.length=ks.length)(hl:ms.length<=100)(hk:∀ k,k∈ks->k<=8) :
  ag Tryz.prog aq 210 [.str s,.list (ms.map PV.str),.list (ks.map lh)] (oO s (cn ms ks s)):=by
 obtain⟨R,hR⟩:∃ R,R=cn ms ks s:=⟨_,rfl⟩
 rw[<- hR]
 refine ag.intro S9.2 (by simp[S9]) ?_
 simp(disch:=try exact dI) only[S9,push_cast,seval]
 refine az ([(6,0,3,1)]) (fun y:Nat×List Int×List UInt8=>[(6,.olist 0 1 (y.2.1.map (PV.int .i64))),(7,.pv (.str y.2.2)),(15,.pv (.int .i64 (y.1:Int)))]) (fun _=>[]) (fun y=>y.1<=ms.length/\y.2.1.length<=y.1/\R=(cn (ms.drop y.1) (ks.drop y.1) y.2.2).map fun q=>(y.2.1++q.1,q.2)) (fun y=>ms.length - y.1) ((0,[],s)) ?_;intro e0 σ0 n0 h0;simp(disch:=try exact dI) only[push_cast,seval] at h0;obtain⟨rfl,rfl,rfl⟩:=h0;refine⟨?_,?_,?_⟩
 ·exact qsZ
 ·exact⟨by simp,by simp,by simp[hR]⟩
 rintro⟨i,L,r⟩ ⟨h1,h2,h3⟩
 simp only at h1 h2 h3
 by_cases hlt:i<ms.length
 ·obtain⟨m,hmi⟩:∃ m,ms[i]? = some m:=⟨_,List.getElem?_eq_getElem hlt⟩
  obtain⟨k,hki⟩:∃ k,ks[i]? = some k:=⟨_,List.getElem?_eq_getElem (by omega)⟩
  have hmp:(ms.map PV.str)[i]? = some (.str m):=by simp[hmi]
  have hkp:(ks.map lh)[i]? = some (.int .i64 (k:Int)):=by simp[hki,lh]
  have hk8:=hk k (List.mem_of_getElem? hki)
  have hc:=ul r m
  rw[b9 hmi,b9 hki] at h3
  simp only[cn] at h3
  cases hb:qn m r with
  | false=>
    rw[hb] at hc h3
    simp only[Bool.false_eq_true,if_false,Option.map_none] at hc h3
    rw[h3]
    simp(disch:=try exact dI) only[hmp,push_cast,seval]
    refine ab.pure hc rfl ?_
    simp(disch:=try exact dI) only[oO,push_cast,seval]
  | true=>
    rw[hb] at hc h3
    simp only[if_true] at hc h3
    have hn:=tA (r.drop m.length) k hk8
    cases hv:rz k (r.drop m.length) with
    | none=>
      rw[hv] at hn h3
      simp only[I9,Option.map_none] at hn h3
      rw[h3]
      simp(disch:=try exact dI) only[hmp,push_cast,seval]
      refine ab.pure hc rfl ?_
      simp(disch:=try exact dI) only[hkp,push_cast,seval]
      refine ab.pure hn rfl ?_
      simp(disch:=try exact dI) only[oO,push_cast,seval]
    | some p=>
      rw[hv] at hn h3
      simp only[I9] at hn h3
      simp(disch:=try exact dI) only[hmp,push_cast,seval]
      refine ab.pure hc rfl ?_
      simp(disch:=try exact dI) only[hkp,push_cast,seval]
      refine ab.pure hn rfl ?_
      refine zgZ ?_
      exact⟨(i+1,L++[p.1],p.2),aV (by simp(disch:=try exact dI) only[List.map_append,push_cast,seval]),⟨by simp only;omega,by simp;omega,by rw[h3,Option.map_map];congr 1;funext q;simp⟩,by simp only;omega⟩
 ·have hi:i=ms.length:=by omega
  have hd1:ms.drop i=[]:=List.drop_eq_nil_of_le (by omega)
  rw[hd1] at h3
  simp only[cn,Option.map_some,List.append_nil] at h3
  rw[h3]
  simp(disch:=try exact dI) only[oO,push_cast,seval]
def kQ (y m d:Int):Int×Int:=if 1<=y/\y<=9999/\1<=m/\m<=12/\1<=d/\d<=mdI y m then (jg y m.toNat d - 719162,0) else (0,17)
theorem sr {y m d:Int}(h:1<=y/\y<=9999/\1<=m/\m<=12/\1<=d/\d<=mdI y m):DateOk y m.toNat d/\((m.toNat:Nat):Int)=m:=by
 have e:((m.toNat:Nat):Int)=m:=by omega
 exact⟨⟨h.1,h.2.1,by omega,by omega,h.2.2.2.2.1,by rw[e];exact h.2.2.2.2.2⟩,e⟩
theorem Mw {y m d:Int}(h:¬ (1<=y/\y<=9999/\1<=m/\m<=12/\1<=d/\d<=mdI y m))(k:Nat)(hk:m=k):¬ DateOk y k d:=by
 intro hd
 subst hk
 exact h ⟨hd.y1,hd.y2,by have:=hd.m1;omega,by have:=hd.m2;omega,hd.d1,hd.d2⟩
theorem Ju (y m d:Int):ag Tryz.prog aq 211 [.int .i64 y,.int .i64 m,.int .i64 d] (.tup [.int .i64 (kQ y m d).1,.int .i64 (kQ y m d).2]):=by
 unfold kQ
 by_cases h:1<=y/\y<=9999/\1<=m/\m<=12/\1<=d/\d<=mdI y m
 ·rw[if_pos h]
  obtain⟨h1,h2⟩:=sr h
  have:=PB h1
  rwa [h2] at this
 ·rw[if_neg h]
  exact PC (Mw h)
theorem Jw (y m d:Int):(kQ y m d).2=0\/(kQ y m d).2=17:=by unfold kQ;split<;>simp
theorem ka:∀ {ms:List (List UInt8)} {ks:List Nat} {s:List UInt8} {p:List Int×List UInt8},cn ms ks s=some p->p.1.length=ms.length
 | [],_,s,p,h=>by simp only[cn] at h;cases h;rfl
 | m::ms,[],s,p,h=>by simp[cn] at h
 | m::ms,k::ks,s,p,h=>by
   simp only[cn] at h
   split at h
   ·cases hn:rz k (s.drop m.length) with
    | none=>rw[hn] at h;cases h
    | some q=>
      rw[hn] at h
      simp only[Option.map_eq_some_iff] at h
      obtain⟨r,hr,rfl⟩:=h
      simp[ka hr]
   ·cases h
def cZ (s:List UInt8):Int×Int:=
 match cn [[],[45],[45]] [4,2,2] s with
 | some ([y,m,d],[])=>kQ y m d
 | _=>(0,13)
theorem rE1 (sz:Nat)(l:List PV):e6 sz l 1=eH sz l 1 l[1]?:=rfl
theorem rE2 (sz:Nat)(l:List PV):e6 sz l 2=eH sz l 2 l[2]?:=rfl
theorem Le (s:List UInt8):ag Tryz.prog aq 168 [.str s] (.tup [.int .i64 (cZ s).1,.int .i64 (cZ s).2]):=by
 have hn:=oP s [[],[45],[45]] [4,2,2] rfl (by simp) (by simp)
 simp only[List.map_cons,List.map_nil,lh] at hn
 unfold cZ
 cases hv:cn [[],[45],[45]] [4,2,2] s with
 | none=>
   rw[hv] at hn
   simp only[oO] at hn
   refine ag.intro IG.2 (by simp[IG]) ?_
   simp(disch:=try exact dI) only[IG,push_cast,seval]
   refine ab.pure hn rfl ?_
   exact qsZ
 | some p=>
   have hl:=ka hv
   obtain⟨l,r⟩:=p
   simp only at hl
   obtain⟨y,m,d,rfl⟩:∃ y m d,l=[y,m,d]:=by
    match l,hl with
    | [y,m,d],_=>exact⟨y,m,d,rfl⟩
   rw[hv] at hn
   simp only[oO,List.map_cons,List.map_nil] at hn
   cases r with
   | nil=>
     have hd:=Ju y m d
     refine ag.intro IG.2 (by simp[IG]) ?_
     simp(disch:=try exact dI) only[IG,push_cast,seval]
     refine ab.pure hn rfl ?_
     simp(disch:=try exact dI) only[rE1,rE2,push_cast,seval]
     refine am hd rfl ?_
     exact qsZ
   | cons c r=>
     have hcr:(!decide (c::r=[]))=true:=by simp
     refine ag.intro IG.2 (by simp[IG]) ?_
     simp(disch:=try exact dI) only[IG,push_cast,seval]
     refine ab.pure hn rfl ?_
     simp(disch:=try exact dI) only[hcr,push_cast,seval]
theorem u8n (c d:UInt8):((c.toNat:Int)=(d.toNat:Int))↔c=d:=⟨fun h=>UInt8.toNat_inj.1 (by omega),fun h=>h▸rfl⟩
theorem dO {m:List UInt8}{ms:List (List UInt8)}{k:Nat}{ks:List Nat}{s:List UInt8}{v:Int}{l:List Int}{r:List UInt8}(h:cn (m::ms) (k::ks) s=some (v::l,r)) :
  k<=(s.drop m.length).length/\((s.drop m.length).take k).all isD=true/\v=gU 0 ((s.drop m.length).take k)/\cn ms ks ((s.drop m.length).drop k)=some (l,r):=by
 simp only[cn] at h
 split at h
 ·unfold rz at h
  split at h
  ·rename_i hc
   split at hc
   ·rename_i hd
    cases hc
    simp only[Option.map_eq_some_iff] at h
    obtain⟨a,ha,he⟩:=h
    cases he
    exact⟨hd.1,hd.2,rfl,ha⟩
   ·cases hc
  ·cases h
 ·cases h
def zO (y m d h mi s ms:Int):Int×Int:=if (kQ y m d).2≠0\/23<h\/59<mi\/59<s then (0,17) else ((kQ y m d).1*86400000+(((60*h+mi)*60+s)*1000+ms),0)
def qG (r:List UInt8):Option Int:=
 if qn [46] r=true then (match rz 3 (r.drop 1) with
  | some p=>if p.1=0\/p.2≠[90] then none else some p.1
  | none=>none) else if r=[90] then some 0 else none
def msT:List (List UInt8):=[[],[45],[45],[84],[58],[58]]
def ksT:List Nat:=[4,2,2,2,2,2]
def cm (s:List UInt8):Int×Int:=
 match cn msT ksT s with
 | some ([y,m,d,h,mi,sec],r)=>(match qG r with
   | some ms=>zO y m d h mi sec ms
   | none=>(0,13))
 | _=>(0,13)
theorem mr {y m d:Int}(h:(kQ y m d).2=0):-719162<=(kQ y m d).1/\(kQ y m d).1<=2932896:=by
 unfold kQ at h ⊢
 split
 ·rename_i hd
  have:=fi (sr hd).1
  simp only
  omega
 ·rename_i hd
  rw[if_neg hd] at h;simp at h
theorem Jf {d r:Int}(h1:-719162<=d/\d<=2932896)(h2:0<=r/\r<=86399999):ag Tryz.prog aq 214 [.int .i64 d,.int .i64 r] (.tup [.int .i64 (d*86400000+r),.int .i64 0]):=by
 have hi1:=dz h1
 have hi2:=dz h2
 refine ag.intro S7.2 (by simp[S7]) ?_
 simp(disch:=try exact dI) only[S7,push_cast,seval]
 refine ab.pure hi1 rfl ?_
 refine zgZ ?_
 refine ab.pure hi2 rfl ?_
 exact qsZ
theorem zH {l:List UInt8}(h:(l.take 2).all isD=true):0<=gU 0 (l.take 2)/\gU 0 (l.take 2)<=99:=by
 have:=cS _ 0 (by omega) h
 have hp:10 ^ (l.take 2).length<=10 ^ 2:=Nat.pow_le_pow_right (by omega) (by simp;omega)
 omega
theorem sZ {l:List UInt8}(h:(l.take 3).all isD=true):0<=gU 0 (l.take 3)/\gU 0 (l.take 3)<=999:=by
 have:=cS _ 0 (by omega) h
 have hp:10 ^ (l.take 3).length<=10 ^ 3:=Nat.pow_le_pow_right (by omega) (by simp;omega)
 omega
theorem rE3 (sz:Nat)(l:List PV):e6 sz l 3=eH sz l 3 l[3]?:=rfl
theorem rE4 (sz:Nat)(l:List PV):e6 sz l 4=eH sz l 4 l[4]?:=rfl
theorem rE5 (sz:Nat)(l:List PV):e6 sz l 5=eH sz l 5 l[5]?:=rfl
theorem rm (s:List UInt8):ag Tryz.prog aq 169 [.str s] (.tup [.int .i64 (cm s).1,.int .i64 (cm s).2]):=by
 have hn:=oP s msT ksT rfl (by simp[msT]) (by simp[ksT])
 unfold cm
 cases hv:cn msT ksT s with
 | none=>
   rw[hv] at hn
   simp only[oO,msT,ksT,List.map_cons,List.map_nil,lh] at hn
   refine ag.intro dn.2 (by simp[dn]) ?_
   simp(disch:=try exact dI) only[dn,push_cast,seval]
   refine ab.pure hn rfl ?_
   exact qsZ
 | some p=>
   have hl:=ka hv
   obtain⟨l,r⟩:=p
   simp only[msT] at hl
   obtain⟨y,m,d,h,mi,sec,rfl⟩:∃ y m d h mi sec,l=[y,m,d,h,mi,sec]:=by
    match l,hl with
    | [y,m,d,h,mi,sec],_=>exact⟨y,m,d,h,mi,sec,rfl⟩
   have hv':=hv
   simp only[msT,ksT] at hv'
   obtain⟨_,_,_,n1⟩:=dO hv'
   obtain⟨_,_,_,n2⟩:=dO n1
   obtain⟨_,_,_,n3⟩:=dO n2
   obtain⟨_,g4,v4,n4⟩:=dO n3
   obtain⟨_,g5,v5,n5⟩:=dO n4
   obtain⟨_,g6,v6,n6⟩:=dO n5
   have b4:=zH g4
   have b5:=zH g5
   have b6:=zH g6
   rw[<- v4] at b4
   rw[<- v5] at b5
   rw[<- v6] at b6
   clear g4 g5 g6 v4 v5 v6 n1 n2 n3 n4 n5 n6 hv'
   rw[hv] at hn
   simp only[oO,msT,ksT,List.map_cons,List.map_nil,lh] at hn
   have hc:=ul r [46]
   have hd:=Ju y m d
   have hrg:=fun h=>mr (y:=y) (m:=m) (d:=d) h
   have hee:=Jw y m d
   have main:∀ ms:Int,0<=ms->ms<=999->True:=fun _ _ _=>trivial
   simp only
   cases hb:qn [46] r with
   | true=>
     rw[hb] at hc
     simp only[if_true,List.length_cons,List.length_nil,Nat.zero_add] at hc
     have h3:=tA (r.drop 1) 3 (by omega)
     unfold qG
     rw[hb,if_pos rfl]
     cases hq:rz 3 (r.drop 1) with
     | none=>
       rw[hq] at h3
       simp only[I9] at h3
       refine ag.intro dn.2 (by simp[dn]) ?_
       simp(disch:=try exact dI) only[dn,push_cast,seval]
       refine ab.pure hn rfl ?_
       refine zgZ ?_
       refine ab.pure hc rfl ?_
       refine zgZ ?_
       refine ab.pure h3 rfl ?_
       exact qsZ
     | some q=>
       rw[hq] at h3
       simp only[I9] at h3
       obtain⟨ms,q⟩:=q
       simp only at h3 ⊢
       have hms:0<=ms/\ms<=999:=by
        unfold rz at hq
        split at hq
        ·rename_i hh
         cases hq
         exact sZ hh.2
        ·cases hq
       by_cases hm0:ms=0
       ·rw[if_pos (Or.inl hm0)]
        subst hm0
        refine ag.intro dn.2 (by simp[dn]) ?_
        simp(disch:=try exact dI) only[dn,push_cast,seval]
        refine ab.pure hn rfl ?_
        refine zgZ ?_
        refine ab.pure hc rfl ?_
        refine zgZ ?_
        refine ab.pure h3 rfl ?_
        exact qsZ
       ·by_cases hq90:q=[90]
        ·subst hq90
         rw[if_neg (by simp[hm0])]
         simp only
         unfold zO
         generalize kQ y m d=R at *
         obtain⟨R1,R2⟩:=R
         simp only at hd hrg hee ⊢
         rcases hee with hz | hz
         ·have hrg':=hrg hz
          subst hz
          by_cases c1:23<h
          ·rw[if_pos (Or.inr (Or.inl c1))]
           refine ag.intro dn.2 (by simp[dn]) ?_
           simp(disch:=try exact dI) only[dn,push_cast,seval]
           refine ab.pure hn rfl ?_
           refine zgZ ?_
           refine ab.pure hc rfl ?_
           refine zgZ ?_
           refine ab.pure h3 rfl ?_
           simp(disch:=try exact dI) only[aD,rE1,rE2,rE3,rE4,rE5,push_cast,seval]
           refine am hd rfl ?_
           simp(disch:=try exact dI) only[aD,rE1,rE2,rE3,rE4,rE5,push_cast,seval]
          by_cases c2:59<mi
          ·rw[if_pos (Or.inr (Or.inr (Or.inl c2)))]
           refine ag.intro dn.2 (by simp[dn]) ?_
           simp(disch:=try exact dI) only[dn,push_cast,seval]
           refine ab.pure hn rfl ?_
           refine zgZ ?_
           refine ab.pure hc rfl ?_
           refine zgZ ?_
           refine ab.pure h3 rfl ?_
           simp(disch:=try exact dI) only[aD,rE1,rE2,rE3,rE4,rE5,push_cast,seval]
           refine am hd rfl ?_
           simp(disch:=try exact dI) only[aD,rE1,rE2,rE3,rE4,rE5,push_cast,seval]
          by_cases c3:59<sec
          ·rw[if_pos (Or.inr (Or.inr (Or.inr c3)))]
           refine ag.intro dn.2 (by simp[dn]) ?_
           simp(disch:=try exact dI) only[dn,push_cast,seval]
           refine ab.pure hn rfl ?_
           refine zgZ ?_
           refine ab.pure hc rfl ?_
           refine zgZ ?_
           refine ab.pure h3 rfl ?_
           simp(disch:=try exact dI) only[aD,rE1,rE2,rE3,rE4,rE5,push_cast,seval]
           refine am hd rfl ?_
           simp(disch:=try exact dI) only[aD,rE1,rE2,rE3,rE4,rE5,push_cast,seval]
          rw[if_neg (by simp;omega)]
          have hj:=Jf hrg' (r:=((60*h+mi)*60+sec)*1000+ms) (by omega)
          refine ag.intro dn.2 (by simp[dn]) ?_
          simp(disch:=try exact dI) only[dn,push_cast,seval]
          refine ab.pure hn rfl ?_
          refine zgZ ?_
          refine ab.pure hc rfl ?_
          refine zgZ ?_
          refine ab.pure h3 rfl ?_
          simp(disch:=try exact dI) only[aD,rE1,rE2,rE3,rE4,rE5,push_cast,seval]
          refine am hd rfl ?_
          simp(disch:=try exact dI) only[aD,rE1,rE2,rE3,rE4,rE5,push_cast,seval]
          refine am hj rfl ?_
          exact qsZ
         ·subst hz
          rw[if_pos (Or.inl (by decide))]
          refine ag.intro dn.2 (by simp[dn]) ?_
          simp(disch:=try exact dI) only[dn,push_cast,seval]
          refine ab.pure hn rfl ?_
          refine zgZ ?_
          refine ab.pure hc rfl ?_
          refine zgZ ?_
          refine ab.pure h3 rfl ?_
          simp(disch:=try exact dI) only[aD,rE1,rE2,rE3,rE4,rE5,push_cast,seval]
          refine am hd rfl ?_
          simp(disch:=try exact dI) only[aD,rE1,rE2,rE3,rE4,rE5,push_cast,seval]
        ·rw[if_pos (Or.inr hq90)]
         have hqd:(!decide (q=[90]))=true:=by simp[hq90]
         refine ag.intro dn.2 (by simp[dn]) ?_
         simp(disch:=try exact dI) only[dn,push_cast,seval]
         refine ab.pure hn rfl ?_
         refine zgZ ?_
         refine ab.pure hc rfl ?_
         refine zgZ ?_
         refine ab.pure h3 rfl ?_
         simp(disch:=try exact dI) only[hqd,push_cast,seval]
   | false=>
     rw[hb] at hc
     simp only[Bool.false_eq_true,if_false] at hc
     unfold qG
     rw[hb,if_neg (by simp)]
     by_cases hr90:r=[90]
     ·subst hr90
      rw[if_pos rfl]
      simp only
      unfold zO
      generalize kQ y m d=R at *
      obtain⟨R1,R2⟩:=R
      simp only at hd hrg hee ⊢
      rcases hee with hz | hz
      ·have hrg':=hrg hz
       subst hz
       by_cases c1:23<h
       ·rw[if_pos (Or.inr (Or.inl c1))]
        refine ag.intro dn.2 (by simp[dn]) ?_
        simp(disch:=try exact dI) only[dn,push_cast,seval]
        refine ab.pure hn rfl ?_
        refine zgZ ?_
        refine ab.pure hc rfl ?_
        simp(disch:=try exact dI) only[aD,rE1,rE2,rE3,rE4,rE5,push_cast,seval]
        refine am hd rfl ?_
        simp(disch:=try exact dI) only[aD,rE1,rE2,rE3,rE4,rE5,push_cast,seval]
       by_cases c2:59<mi
       ·rw[if_pos (Or.inr (Or.inr (Or.inl c2)))]
        refine ag.intro dn.2 (by simp[dn]) ?_
        simp(disch:=try exact dI) only[dn,push_cast,seval]
        refine ab.pure hn rfl ?_
        refine zgZ ?_
        refine ab.pure hc rfl ?_
        simp(disch:=try exact dI) only[aD,rE1,rE2,rE3,rE4,rE5,push_cast,seval]
        refine am hd rfl ?_
        simp(disch:=try exact dI) only[aD,rE1,rE2,rE3,rE4,rE5,push_cast,seval]
       by_cases c3:59<sec
       ·rw[if_pos (Or.inr (Or.inr (Or.inr c3)))]
        refine ag.intro dn.2 (by simp[dn]) ?_
        simp(disch:=try exact dI) only[dn,push_cast,seval]
        refine ab.pure hn rfl ?_
        refine zgZ ?_
        refine ab.pure hc rfl ?_
        simp(disch:=try exact dI) only[aD,rE1,rE2,rE3,rE4,rE5,push_cast,seval]
        refine am hd rfl ?_
        simp(disch:=try exact dI) only[aD,rE1,rE2,rE3,rE4,rE5,push_cast,seval]
       rw[if_neg (by simp;omega)]
       have hj:=Jf hrg' (r:=((60*h+mi)*60+sec)*1000+0) (by omega)
       refine ag.intro dn.2 (by simp[dn]) ?_
       simp(disch:=try exact dI) only[dn,push_cast,seval]
       refine ab.pure hn rfl ?_
       refine zgZ ?_
       refine ab.pure hc rfl ?_
       simp(disch:=try exact dI) only[aD,rE1,rE2,rE3,rE4,rE5,push_cast,seval]
       refine am hd rfl ?_
       simp(disch:=try exact dI) only[aD,rE1,rE2,rE3,rE4,rE5,push_cast,seval]
       refine am hj rfl ?_
       exact qsZ
      ·subst hz
       rw[if_pos (Or.inl (by decide))]
       refine ag.intro dn.2 (by simp[dn]) ?_
       simp(disch:=try exact dI) only[dn,push_cast,seval]
       refine ab.pure hn rfl ?_
       refine zgZ ?_
       refine ab.pure hc rfl ?_
       simp(disch:=try exact dI) only[aD,rE1,rE2,rE3,rE4,rE5,push_cast,seval]
       refine am hd rfl ?_
       simp(disch:=try exact dI) only[aD,rE1,rE2,rE3,rE4,rE5,push_cast,seval]
     ·rw[if_neg hr90]
      have hrd:(!decide (r=[90]))=true:=by simp[hr90]
      refine ag.intro dn.2 (by simp[dn]) ?_
      simp(disch:=try exact dI) only[dn,push_cast,seval]
      refine ab.pure hn rfl ?_
      refine zgZ ?_
      refine ab.pure hc rfl ?_
      simp(disch:=try exact dI) only[hrd,push_cast,seval]
structure NumsT (s:List UInt8)(y m d h mi sec:Int):Prop where
 len:19<=s.length
 day:cZ (s.take 10)=kQ y m d
 h1:((s.drop 11).take 2).all isD=true
 h2:h=gU 0 ((s.drop 11).take 2)
 m1:((s.drop 14).take 2).all isD=true
 m2:mi=gU 0 ((s.drop 14).take 2)
 s1:((s.drop 17).take 2).all isD=true
 s2:sec=gU 0 ((s.drop 17).take 2)
end Go.Proofs.YtbojpfpliibfbaaGreatDoor
