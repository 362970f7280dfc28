/- A part of the proof. -/
import Derived.Test.YtbojpfpliibfbaaGreatDoorCaRWO
import Derived.Test.YtbojpfpliibfbaaGreatDoorCaRC23
set_option maxHeartbeats 16000000
set_option maxRecDepth 100000
set_option linter.unusedVariables false
set_option linter.unusedSimpArgs false
namespace Go.Proofs.YtbojpfpliibfbaaGreatDoor
open Go Go.Ab
attribute [local irreducible] vc
def yB (y m d h mi s ms:Int):Int×Int:=if (kV y m d).2≠0\/23<h\/59<mi\/59<s then (0,17) else ((kV y m d).1*86400000+(((60*h+mi)*60+s)*1000+ms),0)
def qj (r:List UInt8):Option Int:=
 if pO [46] r=true then (match qV 3 (r.drop 1) with
  | some p=>if p.1=0\/p.2≠[90] then none else some p.1
  | none=>none) else if r=[90] then some 0 else none
def msT:List (List UInt8):=[[],[45],[45],[84],[58],[58]]
def ksT:List Nat:=[4,2,2,2,2,2]
def bU (s:List UInt8):Int×Int:=
 match cn msT ksT s with
 | some ([y,m,d,h,mi,sec],r)=>(match qj r with
   | some ms=>yB y m d h mi sec ms
   | none=>(0,13))
 | _=>(0,13)
theorem mt {y m d:Int}(h:(kV y m d).2=0):-719162<=(kV y m d).1/\(kV y m d).1<=2932896:=by
 unfold kV at h ⊢
 split
 ·rename_i hd
  have:=fg (rJ hd).1
  simp only
  omega
 ·rename_i hd
  rw[if_neg hd] at h;simp at h
theorem HS {d r:Int}(h1:-719162<=d/\d<=2932896)(h2:0<=r/\r<=86399999):ag Tryz.prog au 214 [.int .i64 d,.int .i64 r] (.tup [.int .i64 (d*86400000+r),.int .i64 0]):=by
 have hi1:=dE h1
 have hi2:=dE h2
 refine ag.intro Rr.2 (by simp[Rr]) ?_
 simp(disch:=try exact dI) only[Rr,push_cast,seval]
 refine ab.pure hi1 rfl ?_
 refine zgZ ?_
 refine ab.pure hi2 rfl ?_
 exact qsZ
theorem yz {l:List UInt8}(h:(l.take 2).all isD=true):0<=gZ 0 (l.take 2)/\gZ 0 (l.take 2)<=99:=by
 have:=cP _ 0 (by omega) h
 have hp:10 ^ (l.take 2).length<=10 ^ 2:=Nat.pow_le_pow_right (by omega) (by simp;omega)
 omega
theorem sr {l:List UInt8}(h:(l.take 3).all isD=true):0<=gZ 0 (l.take 3)/\gZ 0 (l.take 3)<=999:=by
 have:=cP _ 0 (by omega) h
 have hp:10 ^ (l.take 3).length<=10 ^ 3:=Nat.pow_le_pow_right (by omega) (by simp;omega)
 omega
theorem rE3 (sz:Nat)(l:List PV):fB sz l 3=eM sz l 3 l[3]?:=rfl
theorem rE4 (sz:Nat)(l:List PV):fB sz l 4=eM sz l 4 l[4]?:=rfl
theorem rE5 (sz:Nat)(l:List PV):fB sz l 5=eM sz l 5 l[5]?:=rfl
theorem qL (s:List UInt8):ag Tryz.prog au 169 [.str s] (.tup [.int .i64 (bU s).1,.int .i64 (bU s).2]):=by
 have hn:=oI s msT ksT rfl (by simp[msT]) (by simp[ksT])
 unfold bU
 cases hv:cn msT ksT s with
 | none=>
   rw[hv] at hn
   simp only[oH,msT,ksT,List.map_cons,List.map_nil,lk] at hn
   refine ag.intro di.2 (by simp[di]) ?_
   simp(disch:=try exact dI) only[di,push_cast,seval]
   refine ab.pure hn rfl ?_
   exact qsZ
 | some p=>
   have hl:=ke hv
   obtain⟨l,r⟩:=p
   simp only[msT] at hl
   obtain⟨y,m,d,h,mi,sec,rfl⟩:∃ y m d h mi sec,l=[y,m,d,h,mi,sec]:=by
    match l,hl with
    | [y,m,d,h,mi,sec],_=>exact⟨y,m,d,h,mi,sec,rfl⟩
   have hv':=hv
   simp only[msT,ksT] at hv'
   obtain⟨_,_,_,n1⟩:=dU hv'
   obtain⟨_,_,_,n2⟩:=dU n1
   obtain⟨_,_,_,n3⟩:=dU n2
   obtain⟨_,g4,v4,n4⟩:=dU n3
   obtain⟨_,g5,v5,n5⟩:=dU n4
   obtain⟨_,g6,v6,n6⟩:=dU n5
   have b4:=yz g4
   have b5:=yz g5
   have b6:=yz g6
   rw[<- v4] at b4
   rw[<- v5] at b5
   rw[<- v6] at b6
   clear g4 g5 g6 v4 v5 v6 n1 n2 n3 n4 n5 n6 hv'
   rw[hv] at hn
   simp only[oH,msT,ksT,List.map_cons,List.map_nil,lk] at hn
   have hc:=tP r [46]
   have hd:=H4 y m d
   have hrg:=fun h=>mt (y:=y) (m:=m) (d:=d) h
   have hee:=H6 y m d
   have main:∀ ms:Int,0<=ms->ms<=999->True:=fun _ _ _=>trivial
   simp only
   cases hb:pO [46] r with
   | true=>
     rw[hb] at hc
     simp only[if_true,List.length_cons,List.length_nil,Nat.zero_add] at hc
     have h3:=sZ (r.drop 1) 3 (by omega)
     unfold qj
     rw[hb,if_pos rfl]
     cases hq:qV 3 (r.drop 1) with
     | none=>
       rw[hq] at h3
       simp only[HJ] at h3
       refine ag.intro di.2 (by simp[di]) ?_
       simp(disch:=try exact dI) only[di,push_cast,seval]
       refine ab.pure hn rfl ?_
       refine zgZ ?_
       refine ab.pure hc rfl ?_
       refine zgZ ?_
       refine ab.pure h3 rfl ?_
       exact qsZ
     | some q=>
       rw[hq] at h3
       simp only[HJ] at h3
       obtain⟨ms,q⟩:=q
       simp only at h3 ⊢
       have hms:0<=ms/\ms<=999:=by
        unfold qV at hq
        split at hq
        ·rename_i hh
         cases hq
         exact sr hh.2
        ·cases hq
       by_cases hm0:ms=0
       ·rw[if_pos (Or.inl hm0)]
        subst hm0
        refine ag.intro di.2 (by simp[di]) ?_
        simp(disch:=try exact dI) only[di,push_cast,seval]
        refine ab.pure hn rfl ?_
        refine zgZ ?_
        refine ab.pure hc rfl ?_
        refine zgZ ?_
        refine ab.pure h3 rfl ?_
        exact qsZ
       ·by_cases hq90:q=[90]
        ·subst hq90
         rw[if_neg (by simp[hm0])]
         simp only
         unfold yB
         generalize kV y m d=R at *
         obtain⟨R1,R2⟩:=R
         simp only at hd hrg hee ⊢
         rcases hee with hz | hz
         ·have hrg':=hrg hz
          subst hz
          by_cases c1:23<h
          ·rw[if_pos (Or.inr (Or.inl c1))]
           refine ag.intro di.2 (by simp[di]) ?_
           simp(disch:=try exact dI) only[di,push_cast,seval]
           refine ab.pure hn rfl ?_
           refine zgZ ?_
           refine ab.pure hc rfl ?_
           refine zgZ ?_
           refine ab.pure h3 rfl ?_
           simp(disch:=try exact dI) only[aF,rE1,rE2,rE3,rE4,rE5,push_cast,seval]
           refine aq hd rfl ?_
           simp(disch:=try exact dI) only[aF,rE1,rE2,rE3,rE4,rE5,push_cast,seval]
          by_cases c2:59<mi
          ·rw[if_pos (Or.inr (Or.inr (Or.inl c2)))]
           refine ag.intro di.2 (by simp[di]) ?_
           simp(disch:=try exact dI) only[di,push_cast,seval]
           refine ab.pure hn rfl ?_
           refine zgZ ?_
           refine ab.pure hc rfl ?_
           refine zgZ ?_
           refine ab.pure h3 rfl ?_
           simp(disch:=try exact dI) only[aF,rE1,rE2,rE3,rE4,rE5,push_cast,seval]
           refine aq hd rfl ?_
           simp(disch:=try exact dI) only[aF,rE1,rE2,rE3,rE4,rE5,push_cast,seval]
          by_cases c3:59<sec
          ·rw[if_pos (Or.inr (Or.inr (Or.inr c3)))]
           refine ag.intro di.2 (by simp[di]) ?_
           simp(disch:=try exact dI) only[di,push_cast,seval]
           refine ab.pure hn rfl ?_
           refine zgZ ?_
           refine ab.pure hc rfl ?_
           refine zgZ ?_
           refine ab.pure h3 rfl ?_
           simp(disch:=try exact dI) only[aF,rE1,rE2,rE3,rE4,rE5,push_cast,seval]
           refine aq hd rfl ?_
           simp(disch:=try exact dI) only[aF,rE1,rE2,rE3,rE4,rE5,push_cast,seval]
          rw[if_neg (by simp;omega)]
          have hj:=HS hrg' (r:=((60*h+mi)*60+sec)*1000+ms) (by omega)
          refine ag.intro di.2 (by simp[di]) ?_
          simp(disch:=try exact dI) only[di,push_cast,seval]
          refine ab.pure hn rfl ?_
          refine zgZ ?_
          refine ab.pure hc rfl ?_
          refine zgZ ?_
          refine ab.pure h3 rfl ?_
          simp(disch:=try exact dI) only[aF,rE1,rE2,rE3,rE4,rE5,push_cast,seval]
          refine aq hd rfl ?_
          simp(disch:=try exact dI) only[aF,rE1,rE2,rE3,rE4,rE5,push_cast,seval]
          refine aq hj rfl ?_
          exact qsZ
         ·subst hz
          rw[if_pos (Or.inl (by decide))]
          refine ag.intro di.2 (by simp[di]) ?_
          simp(disch:=try exact dI) only[di,push_cast,seval]
          refine ab.pure hn rfl ?_
          refine zgZ ?_
          refine ab.pure hc rfl ?_
          refine zgZ ?_
          refine ab.pure h3 rfl ?_
          simp(disch:=try exact dI) only[aF,rE1,rE2,rE3,rE4,rE5,push_cast,seval]
          refine aq hd rfl ?_
          simp(disch:=try exact dI) only[aF,rE1,rE2,rE3,rE4,rE5,push_cast,seval]
        ·rw[if_pos (Or.inr hq90)]
         have hqd:(!decide (q=[90]))=true:=by simp[hq90]
         refine ag.intro di.2 (by simp[di]) ?_
         simp(disch:=try exact dI) only[di,push_cast,seval]
         refine ab.pure hn rfl ?_
         refine zgZ ?_
         refine ab.pure hc rfl ?_
         refine zgZ ?_
         refine ab.pure h3 rfl ?_
         simp(disch:=try exact dI) only[hqd,push_cast,seval]
   | false=>
     rw[hb] at hc
     simp only[Bool.false_eq_true,if_false] at hc
     unfold qj
     rw[hb,if_neg (by simp)]
     by_cases hr90:r=[90]
     ·subst hr90
      rw[if_pos rfl]
      simp only
      unfold yB
      generalize kV y m d=R at *
      obtain⟨R1,R2⟩:=R
      simp only at hd hrg hee ⊢
      rcases hee with hz | hz
      ·have hrg':=hrg hz
       subst hz
       by_cases c1:23<h
       ·rw[if_pos (Or.inr (Or.inl c1))]
        refine ag.intro di.2 (by simp[di]) ?_
        simp(disch:=try exact dI) only[di,push_cast,seval]
        refine ab.pure hn rfl ?_
        refine zgZ ?_
        refine ab.pure hc rfl ?_
        simp(disch:=try exact dI) only[aF,rE1,rE2,rE3,rE4,rE5,push_cast,seval]
        refine aq hd rfl ?_
        simp(disch:=try exact dI) only[aF,rE1,rE2,rE3,rE4,rE5,push_cast,seval]
       by_cases c2:59<mi
       ·rw[if_pos (Or.inr (Or.inr (Or.inl c2)))]
        refine ag.intro di.2 (by simp[di]) ?_
        simp(disch:=try exact dI) only[di,push_cast,seval]
        refine ab.pure hn rfl ?_
        refine zgZ ?_
        refine ab.pure hc rfl ?_
        simp(disch:=try exact dI) only[aF,rE1,rE2,rE3,rE4,rE5,push_cast,seval]
        refine aq hd rfl ?_
        simp(disch:=try exact dI) only[aF,rE1,rE2,rE3,rE4,rE5,push_cast,seval]
       by_cases c3:59<sec
       ·rw[if_pos (Or.inr (Or.inr (Or.inr c3)))]
        refine ag.intro di.2 (by simp[di]) ?_
        simp(disch:=try exact dI) only[di,push_cast,seval]
        refine ab.pure hn rfl ?_
        refine zgZ ?_
        refine ab.pure hc rfl ?_
        simp(disch:=try exact dI) only[aF,rE1,rE2,rE3,rE4,rE5,push_cast,seval]
        refine aq hd rfl ?_
        simp(disch:=try exact dI) only[aF,rE1,rE2,rE3,rE4,rE5,push_cast,seval]
       rw[if_neg (by simp;omega)]
       have hj:=HS hrg' (r:=((60*h+mi)*60+sec)*1000+0) (by omega)
       refine ag.intro di.2 (by simp[di]) ?_
       simp(disch:=try exact dI) only[di,push_cast,seval]
       refine ab.pure hn rfl ?_
       refine zgZ ?_
       refine ab.pure hc rfl ?_
       simp(disch:=try exact dI) only[aF,rE1,rE2,rE3,rE4,rE5,push_cast,seval]
       refine aq hd rfl ?_
       simp(disch:=try exact dI) only[aF,rE1,rE2,rE3,rE4,rE5,push_cast,seval]
       refine aq hj rfl ?_
       exact qsZ
      ·subst hz
       rw[if_pos (Or.inl (by decide))]
       refine ag.intro di.2 (by simp[di]) ?_
       simp(disch:=try exact dI) only[di,push_cast,seval]
       refine ab.pure hn rfl ?_
       refine zgZ ?_
       refine ab.pure hc rfl ?_
       simp(disch:=try exact dI) only[aF,rE1,rE2,rE3,rE4,rE5,push_cast,seval]
       refine aq hd rfl ?_
       simp(disch:=try exact dI) only[aF,rE1,rE2,rE3,rE4,rE5,push_cast,seval]
     ·rw[if_neg hr90]
      have hrd:(!decide (r=[90]))=true:=by simp[hr90]
      refine ag.intro di.2 (by simp[di]) ?_
      simp(disch:=try exact dI) only[di,push_cast,seval]
      refine ab.pure hn rfl ?_
      refine zgZ ?_
      refine ab.pure hc rfl ?_
      simp(disch:=try exact dI) only[hrd,push_cast,seval]
structure NumsT (s:List UInt8)(y m d h mi sec:Int):Prop where
 len:19<=s.length
 day:bV (s.take 10)=kV y m d
 h1:((s.drop 11).take 2).all isD=true
 h2:h=gZ 0 ((s.drop 11).take 2)
 m1:((s.drop 14).take 2).all isD=true
 m2:mi=gZ 0 ((s.drop 14).take 2)
 s1:((s.drop 17).take 2).all isD=true
 s2:sec=gZ 0 ((s.drop 17).take 2)
abbrev Qt:=Int×Int×List UInt8
def q0:Qt:=(0,0,[])
def rdB (s:List UInt8):Qt×Int:=if s=[84] then ((1,0,[]),0) else if s=[70] then (q0,0) else (q0,13)
def rdN (sc:Int)(s:List UInt8):Qt×Int:=if ¬ (bi s).2=0 then (q0,13) else if ¬ ((bi s).1.2:Int)=sc then (q0,18) else (((bi s).1.1,((bi s).1.2:Int),[]),0)
def rdT (s:List UInt8):Qt×Int:=if Lib.validD s=false then (q0,16) else if wrB s=false then (q0,6) else ((0,0,s),0)
def rdO:Option (List UInt8)->Qt×Int
 | some b=>((0,0,b),0)
 | none=>(q0,13)
def rdC (k sc:Int)(s:List UInt8):Qt×Int:=
 if k=1 then rdB s else if k=2\/k=3 then rdN sc s else if k=4 then rdT s else if k=5 then rdO (kz s)
 else if k=6 then (((bV s).1,0,[]),(bV s).2) else (((bU s).1,0,[]),(bU s).2)
def pX (k:Int)(q:Qt):PV:=jd k q.1 q.2.1 q.2.2
def rdP (k:Int)(q:Qt×Int):PV:=.tup [if q.2=0\/6<=k then pX k q.1 else eP,.int .i64 q.2]
theorem oq (k:Int)(q:Qt):rdP k (q,0) = .tup [pX k q,.int .i64 0]:=by unfold rdP;rw[if_pos (.inl rfl)]
theorem lQ {k:Int}{q:Qt}{e:Int}(hk:k<6)(he:¬ e=0):rdP k (q,e) = .tup [eP,.int .i64 e]:=by unfold rdP;rw[if_neg (fun h=>h.elim he (by omega))]
theorem AH {T:Nat}{p:PV}(k m M sc:Int)(w:List (List UInt8))(e:List Typ)(f:List TFd)(s:List UInt8)(hk:k<6):ag Tryz.prog (dN T p) 164 [.str s,(Typ.mk k m M sc w e f).pv] (rdP k (rdN sc s)):=by
 have h:=JT (T:=T) (p:=p) s
 unfold rdN
 generalize (bi s).1.1=n at *
 generalize (bi s).1.2=c at *
 generalize (bi s).2=z at *
 refine ag.intro Rz.2 (by simp[Rz]) ?_
 simp(disch:=try exact dI) only[Rz,Typ.pv_mk,push_cast,seval]
 refine ab.pure h rfl ?_
 by_cases h1:z=0
 ·rw[if_neg (fun q=>q h1)]
  by_cases h2:(c:Int)=sc
  ·rw[if_neg (fun q=>q h2),oq]
   simp(disch:=try exact dI) only[h1,h2,pX,jd,push_cast,seval]
  ·rw[if_pos h2,lQ hk (by decide)]
   simp(disch:=try exact dI) only[h1,h2,eP,push_cast,seval]
 ·rw[if_pos h1,lQ hk (by decide)]
  simp(disch:=try exact dI) only[h1,eP,push_cast,seval]
theorem M8 (sc:Int)(s:List UInt8):rdC 1 sc s=rdB s:=if_pos rfl
theorem zF (sc:Int)(s:List UInt8):rdC 4 sc s=rdT s:=by unfold rdC;rw[if_neg (by decide),if_neg (by decide),if_pos rfl]
theorem EJ (sc:Int)(s:List UInt8):rdC 5 sc s=rdO (kz s):=by unfold rdC;rw[if_neg (by decide),if_neg (by decide),if_neg (by decide),if_pos rfl]
theorem JD (sc:Int)(s:List UInt8):rdC 6 sc s=(((bV s).1,0,[]),(bV s).2):=by unfold rdC;rw[if_neg (by decide),if_neg (by decide),if_neg (by decide),if_neg (by decide),if_pos rfl]
theorem JC (sc:Int)(s:List UInt8):rdC 7 sc s=(((bU s).1,0,[]),(bU s).2):=by unfold rdC;rw[if_neg (by decide),if_neg (by decide),if_neg (by decide),if_neg (by decide),if_neg (by decide)]
theorem zE {T:Nat}{p:PV}(m M sc:Int)(w:List (List UInt8))(e:List Typ)(f:List TFd)(s:List UInt8)(hs:s.length<=1000000):ag Tryz.prog (dN T p) 107 [.str s,(Typ.mk 1 m M sc w e f).pv] (rdP 1 (rdC 1 sc s)):=by
 rw[M8]
 unfold rdB
 have hT:=toE (T:=T) (p:=p) (C8 true)
 have hF:=toE (T:=T) (p:=p) (C8 false)
 by_cases h1:s=[84]
 ·subst h1
  rw[if_pos rfl,oq]
  refine ag.intro eO.2 (by simp[eO]) ?_
  simp(disch:=try exact dI) only[eO,Typ.pv_mk,push_cast,seval]
  refine ab.pure hT rfl ?_
  simp(disch:=try exact dI) only[pX,jd,push_cast,seval]
 ·rw[if_neg h1]
  by_cases h2:s=[70]
  ·subst h2
   rw[if_pos rfl,oq]
   refine ag.intro eO.2 (by simp[eO]) ?_
   simp(disch:=try exact dI) only[eO,Typ.pv_mk,h1,push_cast,seval]
   refine ab.pure hF rfl ?_
   simp(disch:=try exact dI) only[pX,jd,q0,push_cast,seval]
  ·rw[if_neg h2,lQ (by decide) (by decide)]
   refine ag.intro eO.2 (by simp[eO]) ?_
   simp(disch:=try exact dI) only[eO,Typ.pv_mk,h1,h2,eP,push_cast,seval]
theorem uV {T:Nat}{p:PV}(k m M sc:Int)(w:List (List UInt8))(e:List Typ)(f:List TFd)(s:List UInt8)(h23:k=2\/k=3)(hs:s.length<=1000000):ag Tryz.prog (dN T p) 107 [.str s,(Typ.mk k m M sc w e f).pv] (rdP k (rdC k sc s)):=by
 rw[show rdC k sc s=rdN sc s by unfold rdC;rw[if_neg (by omega),if_pos h23]]
 have hn:=AH (T:=T) (p:=p) k m M sc w e f s (by omega)
 unfold rdP at hn ⊢
 have h1:¬ k=1:=by omega
 by_cases c:(rdN sc s).2=0\/6<=k
 ·rw[if_pos c] at hn ⊢
  simp only[pX,jd,Typ.pv_mk] at hn ⊢
  clear c
  generalize (rdN sc s).1.1=a at *
  generalize (rdN sc s).1.2.1=b at *
  generalize (rdN sc s).1.2.2=d at *
  generalize (rdN sc s).2=z at *
  refine ag.intro eO.2 (by simp[eO]) ?_
  rcases h23 with rfl | rfl
  ·simp(disch:=try exact dI) only[eO,Typ.pv_mk,push_cast,seval]
   refine ab.pure hn rfl ?_
   exact qsZ
  ·simp(disch:=try exact dI) only[eO,Typ.pv_mk,push_cast,seval]
   refine ab.pure hn rfl ?_
   exact qsZ
 ·rw[if_neg c] at hn ⊢
  simp only[eP,Typ.pv_mk] at hn ⊢
  clear c
  generalize (rdN sc s).2=z at *
  refine ag.intro eO.2 (by simp[eO]) ?_
  rcases h23 with rfl | rfl
  ·simp(disch:=try exact dI) only[eO,Typ.pv_mk,push_cast,seval]
   refine ab.pure hn rfl ?_
   exact qsZ
  ·simp(disch:=try exact dI) only[eO,Typ.pv_mk,push_cast,seval]
   refine ab.pure hn rfl ?_
   exact qsZ
theorem zD {T:Nat}{p:PV}(m M sc:Int)(w:List (List UInt8))(e:List Typ)(f:List TFd)(s:List UInt8)(hs:s.length<=1000000):ag Tryz.prog (dN T p) 107 [.str s,(Typ.mk 4 m M sc w e f).pv] (rdP 4 (rdC 4 sc s)):=by
 rw[zF]
 have h1:=toE (T:=T) (p:=p) (ek s)
 have h2:=toE (T:=T) (p:=p) (jF s (by omega))
 have h3:=toE (T:=T) (p:=p) (IL s)
 unfold rdT
 cases hv:Lib.validD s with
 | false=>
   rw[if_pos rfl,lQ (by decide) (by decide)]
   rw[hv] at h1
   refine ag.intro eO.2 (by simp[eO]) ?_
   simp(disch:=try exact dI) only[eO,Typ.pv_mk,push_cast,seval]
   refine ab.pure h1 rfl ?_
   simp(disch:=try exact dI) only[eP,push_cast,seval]
 | true=>
   rw[if_neg (by decide)]
   rw[hv] at h1
   cases hw:wrB s with
   | false=>
     rw[if_pos rfl,lQ (by decide) (by decide)]
     rw[hw] at h2
     refine ag.intro eO.2 (by simp[eO]) ?_
     simp(disch:=try exact dI) only[eO,Typ.pv_mk,push_cast,seval]
     refine ab.pure h1 rfl ?_
     refine zgZ ?_
     refine ab.pure h2 rfl ?_
     simp(disch:=try exact dI) only[eP,push_cast,seval]
   | true=>
     rw[if_neg (by decide),oq]
     rw[hw] at h2
     refine ag.intro eO.2 (by simp[eO]) ?_
     simp(disch:=try exact dI) only[eO,Typ.pv_mk,push_cast,seval]
     refine ab.pure h1 rfl ?_
     refine zgZ ?_
     refine ab.pure h2 rfl ?_
     refine zgZ ?_
     refine ab.pure h3 rfl ?_
     simp(disch:=try exact dI) only[pX,jd,push_cast,seval]
theorem zC {T:Nat}{p:PV}(m M sc:Int)(w:List (List UInt8))(e:List Typ)(f:List TFd)(s:List UInt8)(hs:s.length<=1000000):ag Tryz.prog (dN T p) 107 [.str s,(Typ.mk 5 m M sc w e f).pv] (rdP 5 (rdC 5 sc s)):=by
 rw[EJ]
 have ho:=toE (T:=T) (p:=p) (AF s hs)
 cases hh:kz s with
 | none=>
   rw[hh] at ho
   simp only[J2,eP] at ho
   rw[rdO,lQ (by decide) (by decide)]
   refine ag.intro eO.2 (by simp[eO]) ?_
   simp(disch:=try exact dI) only[eO,Typ.pv_mk,push_cast,seval]
   refine ab.pure ho rfl ?_
   simp(disch:=try exact dI) only[eP,push_cast,seval]
 | some b=>
   rw[hh] at ho
   simp only[J2,jd] at ho
   rw[rdO,oq]
   refine ag.intro eO.2 (by simp[eO]) ?_
   simp(disch:=try exact dI) only[eO,Typ.pv_mk,push_cast,seval]
   refine ab.pure ho rfl ?_
   simp(disch:=try exact dI) only[pX,jd,push_cast,seval]
theorem zB {T:Nat}{p:PV}(m M sc:Int)(w:List (List UInt8))(e:List Typ)(f:List TFd)(s:List UInt8)(hs:s.length<=1000000):ag Tryz.prog (dN T p) 107 [.str s,(Typ.mk 6 m M sc w e f).pv] (rdP 6 (rdC 6 sc s)):=by
 rw[JD]
 have h:=toE (T:=T) (p:=p) (JS s)
 unfold rdP
 rw[if_pos (.inr (by decide))]
 generalize (bV s).1=n at *
 generalize (bV s).2=z at *
 refine ag.intro eO.2 (by simp[eO]) ?_
 simp(disch:=try exact dI) only[eO,Typ.pv_mk,push_cast,seval]
 refine ab.pure h rfl ?_
 simp(disch:=try exact dI) only[pX,jd,push_cast,seval]
theorem zz {T:Nat}{p:PV}(m M sc:Int)(w:List (List UInt8))(e:List Typ)(f:List TFd)(s:List UInt8)(hs:s.length<=1000000):ag Tryz.prog (dN T p) 107 [.str s,(Typ.mk 7 m M sc w e f).pv] (rdP 7 (rdC 7 sc s)):=by
 rw[JC]
 have h:=toE (T:=T) (p:=p) (qL s)
 unfold rdP
 rw[if_pos (.inr (by decide))]
 generalize (bU s).1=n at *
 generalize (bU s).2=z at *
 refine ag.intro eO.2 (by simp[eO]) ?_
 simp(disch:=try exact dI) only[eO,Typ.pv_mk,push_cast,seval]
 refine ab.pure h rfl ?_
 simp(disch:=try exact dI) only[pX,jd,push_cast,seval]
theorem Jy {T:Nat}{p:PV}(k m M sc:Int)(w:List (List UInt8))(e:List Typ)(f:List TFd)(s:List UInt8)(hk:1<=k/\k<=7)(hs:s.length<=1000000):ag Tryz.prog (dN T p) 107 [.str s,(Typ.mk k m M sc w e f).pv] (rdP k (rdC k sc s)):=by
 have e1:k=1\/(k=2\/k=3)\/k=4\/k=5\/k=6\/k=7:=by omega
 rcases e1 with rfl | h23 | rfl | rfl | rfl | rfl
 ·exact zE m M sc w e f s hs
 ·exact uV k m M sc w e f s h23 hs
 ·exact zD m M sc w e f s hs
 ·exact zC m M sc w e f s hs
 ·exact zB m M sc w e f s hs
 ·exact zz m M sc w e f s hs
end Go.Proofs.YtbojpfpliibfbaaGreatDoor
