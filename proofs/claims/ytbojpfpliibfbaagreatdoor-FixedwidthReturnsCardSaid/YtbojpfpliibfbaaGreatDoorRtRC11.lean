/- A part of the proof. -/
import Derived.Test.YtbojpfpliibfbaaGreatDoorRtRWO
import Derived.Test.YtbojpfpliibfbaaGreatDoorRtRC23
set_option maxHeartbeats 16000000
set_option maxRecDepth 100000
set_option linter.unusedVariables false
set_option linter.unusedSimpArgs false
namespace Go.Proofs.YtbojpfpliibfbaaGreatDoor
open Go Go.Ab
attribute [local irreducible] vc
def xE (y m d h mi s ms:Int):Int×Int:=if (ki y m d).2≠0\/23<h\/59<mi\/59<s then (0,17) else ((ki y m d).1*86400000+(((60*h+mi)*60+s)*1000+ms),0)
def pq (r:List UInt8):Option Int:=
 if pa [46] r=true then (match qk 3 (r.drop 1) with
  | some p=>if p.1=0\/p.2≠[90] then none else some p.1
  | none=>none) else if r=[90] then some 0 else none
def msT:List (List UInt8):=[[],[45],[45],[84],[58],[58]]
def ksT:List Nat:=[4,2,2,2,2,2]
def bY (s:List UInt8):Int×Int:=
 match bZ msT ksT s with
 | some ([y,m,d,h,mi,sec],r)=>(match pq r with
   | some ms=>xE y m d h mi sec ms
   | none=>(0,13))
 | _=>(0,13)
theorem lI {y m d:Int}(h:(ki y m d).2=0):-719162<=(ki y m d).1/\(ki y m d).1<=2932896:=by
 unfold ki at h ⊢
 split
 ·rename_i hd
  have:=eY (qR hd).1
  simp only
  omega
 ·rename_i hd
  rw[if_neg hd] at h;simp at h
theorem GM {d r:Int}(h1:-719162<=d/\d<=2932896)(h2:0<=r/\r<=86399999):ag Tryz.prog au 214 [.int .i64 d,.int .i64 r] (.tup [.int .i64 (d*86400000+r),.int .i64 0]):=by
 have hi1:=dr h1
 have hi2:=dr h2
 refine ag.intro Qi.2 (by simp[Qi]) ?_
 simp(disch:=try exact dI) only[Qi,push_cast,seval]
 refine ab.pure hi1 rfl ?_
 refine zgZ ?_
 refine ab.pure hi2 rfl ?_
 exact qsZ
theorem xB {l:List UInt8}(h:(l.take 2).all isD=true):0<=gy 0 (l.take 2)/\gy 0 (l.take 2)<=99:=by
 have:=cD _ 0 (by omega) h
 have hp:10 ^ (l.take 2).length<=10 ^ 2:=Nat.pow_le_pow_right (by omega) (by simp;omega)
 omega
theorem rC {l:List UInt8}(h:(l.take 3).all isD=true):0<=gy 0 (l.take 3)/\gy 0 (l.take 3)<=999:=by
 have:=cD _ 0 (by omega) h
 have hp:10 ^ (l.take 3).length<=10 ^ 3:=Nat.pow_le_pow_right (by omega) (by simp;omega)
 omega
theorem rE3 (sz:Nat)(l:List PV):fi sz l 3=ey sz l 3 l[3]?:=rfl
theorem rE4 (sz:Nat)(l:List PV):fi sz l 4=ey sz l 4 l[4]?:=rfl
theorem rE5 (sz:Nat)(l:List PV):fi sz l 5=ey sz l 5 l[5]?:=rfl
theorem pU (s:List UInt8):ag Tryz.prog au 169 [.str s] (.tup [.int .i64 (bY s).1,.int .i64 (bY s).2]):=by
 have hn:=n7 s msT ksT rfl (by simp[msT]) (by simp[ksT])
 unfold bY
 cases hv:bZ msT ksT s with
 | none=>
   rw[hv] at hn
   simp only[nZ,msT,ksT,List.map_cons,List.map_nil,kz] at hn
   refine ag.intro cY.2 (by simp[cY]) ?_
   simp(disch:=try exact dI) only[cY,push_cast,seval]
   refine ab.pure hn rfl ?_
   exact qsZ
 | some p=>
   have hl:=jI hv
   obtain⟨l,r⟩:=p
   simp only[msT] at hl
   obtain⟨y,m,d,h,mi,sec,rfl⟩:∃ y m d h mi sec,l=[y,m,d,h,mi,sec]:=by
    match l,hl with
    | [y,m,d,h,mi,sec],_=>exact⟨y,m,d,h,mi,sec,rfl⟩
   have hv':=hv
   simp only[msT,ksT] at hv'
   obtain⟨_,_,_,n1⟩:=dG hv'
   obtain⟨_,_,_,n2⟩:=dG n1
   obtain⟨_,_,_,n3⟩:=dG n2
   obtain⟨_,g4,v4,n4⟩:=dG n3
   obtain⟨_,g5,v5,n5⟩:=dG n4
   obtain⟨_,g6,v6,n6⟩:=dG n5
   have b4:=xB g4
   have b5:=xB g5
   have b6:=xB g6
   rw[<- v4] at b4
   rw[<- v5] at b5
   rw[<- v6] at b6
   clear g4 g5 g6 v4 v5 v6 n1 n2 n3 n4 n5 n6 hv'
   rw[hv] at hn
   simp only[nZ,msT,ksT,List.map_cons,List.map_nil,kz] at hn
   have hc:=sR r [46]
   have hd:=GZ y m d
   have hrg:=fun h=>lI (y:=y) (m:=m) (d:=d) h
   have hee:=G1 y m d
   have main:∀ ms:Int,0<=ms->ms<=999->True:=fun _ _ _=>trivial
   simp only
   cases hb:pa [46] r with
   | true=>
     rw[hb] at hc
     simp only[if_true,List.length_cons,List.length_nil,Nat.zero_add] at hc
     have h3:=r8 (r.drop 1) 3 (by omega)
     unfold pq
     rw[hb,if_pos rfl]
     cases hq:qk 3 (r.drop 1) with
     | none=>
       rw[hq] at h3
       simp only[GD] at h3
       refine ag.intro cY.2 (by simp[cY]) ?_
       simp(disch:=try exact dI) only[cY,push_cast,seval]
       refine ab.pure hn rfl ?_
       refine zgZ ?_
       refine ab.pure hc rfl ?_
       refine zgZ ?_
       refine ab.pure h3 rfl ?_
       exact qsZ
     | some q=>
       rw[hq] at h3
       simp only[GD] at h3
       obtain⟨ms,q⟩:=q
       simp only at h3 ⊢
       have hms:0<=ms/\ms<=999:=by
        unfold qk at hq
        split at hq
        ·rename_i hh
         cases hq
         exact rC hh.2
        ·cases hq
       by_cases hm0:ms=0
       ·rw[if_pos (Or.inl hm0)]
        subst hm0
        refine ag.intro cY.2 (by simp[cY]) ?_
        simp(disch:=try exact dI) only[cY,push_cast,seval]
        refine ab.pure hn rfl ?_
        refine zgZ ?_
        refine ab.pure hc rfl ?_
        refine zgZ ?_
        refine ab.pure h3 rfl ?_
        exact qsZ
       ·by_cases hq90:q=[90]
        ·subst hq90
         rw[if_neg (by simp[hm0])]
         simp only
         unfold xE
         generalize ki y m d=R at *
         obtain⟨R1,R2⟩:=R
         simp only at hd hrg hee ⊢
         rcases hee with hz | hz
         ·have hrg':=hrg hz
          subst hz
          by_cases c1:23<h
          ·rw[if_pos (Or.inr (Or.inl c1))]
           refine ag.intro cY.2 (by simp[cY]) ?_
           simp(disch:=try exact dI) only[cY,push_cast,seval]
           refine ab.pure hn rfl ?_
           refine zgZ ?_
           refine ab.pure hc rfl ?_
           refine zgZ ?_
           refine ab.pure h3 rfl ?_
           simp(disch:=try exact dI) only[aF,rE1,rE2,rE3,rE4,rE5,push_cast,seval]
           refine aq hd rfl ?_
           simp(disch:=try exact dI) only[aF,rE1,rE2,rE3,rE4,rE5,push_cast,seval]
          by_cases c2:59<mi
          ·rw[if_pos (Or.inr (Or.inr (Or.inl c2)))]
           refine ag.intro cY.2 (by simp[cY]) ?_
           simp(disch:=try exact dI) only[cY,push_cast,seval]
           refine ab.pure hn rfl ?_
           refine zgZ ?_
           refine ab.pure hc rfl ?_
           refine zgZ ?_
           refine ab.pure h3 rfl ?_
           simp(disch:=try exact dI) only[aF,rE1,rE2,rE3,rE4,rE5,push_cast,seval]
           refine aq hd rfl ?_
           simp(disch:=try exact dI) only[aF,rE1,rE2,rE3,rE4,rE5,push_cast,seval]
          by_cases c3:59<sec
          ·rw[if_pos (Or.inr (Or.inr (Or.inr c3)))]
           refine ag.intro cY.2 (by simp[cY]) ?_
           simp(disch:=try exact dI) only[cY,push_cast,seval]
           refine ab.pure hn rfl ?_
           refine zgZ ?_
           refine ab.pure hc rfl ?_
           refine zgZ ?_
           refine ab.pure h3 rfl ?_
           simp(disch:=try exact dI) only[aF,rE1,rE2,rE3,rE4,rE5,push_cast,seval]
           refine aq hd rfl ?_
           simp(disch:=try exact dI) only[aF,rE1,rE2,rE3,rE4,rE5,push_cast,seval]
          rw[if_neg (by simp;omega)]
          have hj:=GM hrg' (r:=((60*h+mi)*60+sec)*1000+ms) (by omega)
          refine ag.intro cY.2 (by simp[cY]) ?_
          simp(disch:=try exact dI) only[cY,push_cast,seval]
          refine ab.pure hn rfl ?_
          refine zgZ ?_
          refine ab.pure hc rfl ?_
          refine zgZ ?_
          refine ab.pure h3 rfl ?_
          simp(disch:=try exact dI) only[aF,rE1,rE2,rE3,rE4,rE5,push_cast,seval]
          refine aq hd rfl ?_
          simp(disch:=try exact dI) only[aF,rE1,rE2,rE3,rE4,rE5,push_cast,seval]
          refine aq hj rfl ?_
          exact qsZ
         ·subst hz
          rw[if_pos (Or.inl (by decide))]
          refine ag.intro cY.2 (by simp[cY]) ?_
          simp(disch:=try exact dI) only[cY,push_cast,seval]
          refine ab.pure hn rfl ?_
          refine zgZ ?_
          refine ab.pure hc rfl ?_
          refine zgZ ?_
          refine ab.pure h3 rfl ?_
          simp(disch:=try exact dI) only[aF,rE1,rE2,rE3,rE4,rE5,push_cast,seval]
          refine aq hd rfl ?_
          simp(disch:=try exact dI) only[aF,rE1,rE2,rE3,rE4,rE5,push_cast,seval]
        ·rw[if_pos (Or.inr hq90)]
         have hqd:(!decide (q=[90]))=true:=by simp[hq90]
         refine ag.intro cY.2 (by simp[cY]) ?_
         simp(disch:=try exact dI) only[cY,push_cast,seval]
         refine ab.pure hn rfl ?_
         refine zgZ ?_
         refine ab.pure hc rfl ?_
         refine zgZ ?_
         refine ab.pure h3 rfl ?_
         simp(disch:=try exact dI) only[hqd,push_cast,seval]
   | false=>
     rw[hb] at hc
     simp only[Bool.false_eq_true,if_false] at hc
     unfold pq
     rw[hb,if_neg (by simp)]
     by_cases hr90:r=[90]
     ·subst hr90
      rw[if_pos rfl]
      simp only
      unfold xE
      generalize ki y m d=R at *
      obtain⟨R1,R2⟩:=R
      simp only at hd hrg hee ⊢
      rcases hee with hz | hz
      ·have hrg':=hrg hz
       subst hz
       by_cases c1:23<h
       ·rw[if_pos (Or.inr (Or.inl c1))]
        refine ag.intro cY.2 (by simp[cY]) ?_
        simp(disch:=try exact dI) only[cY,push_cast,seval]
        refine ab.pure hn rfl ?_
        refine zgZ ?_
        refine ab.pure hc rfl ?_
        simp(disch:=try exact dI) only[aF,rE1,rE2,rE3,rE4,rE5,push_cast,seval]
        refine aq hd rfl ?_
        simp(disch:=try exact dI) only[aF,rE1,rE2,rE3,rE4,rE5,push_cast,seval]
       by_cases c2:59<mi
       ·rw[if_pos (Or.inr (Or.inr (Or.inl c2)))]
        refine ag.intro cY.2 (by simp[cY]) ?_
        simp(disch:=try exact dI) only[cY,push_cast,seval]
        refine ab.pure hn rfl ?_
        refine zgZ ?_
        refine ab.pure hc rfl ?_
        simp(disch:=try exact dI) only[aF,rE1,rE2,rE3,rE4,rE5,push_cast,seval]
        refine aq hd rfl ?_
        simp(disch:=try exact dI) only[aF,rE1,rE2,rE3,rE4,rE5,push_cast,seval]
       by_cases c3:59<sec
       ·rw[if_pos (Or.inr (Or.inr (Or.inr c3)))]
        refine ag.intro cY.2 (by simp[cY]) ?_
        simp(disch:=try exact dI) only[cY,push_cast,seval]
        refine ab.pure hn rfl ?_
        refine zgZ ?_
        refine ab.pure hc rfl ?_
        simp(disch:=try exact dI) only[aF,rE1,rE2,rE3,rE4,rE5,push_cast,seval]
        refine aq hd rfl ?_
        simp(disch:=try exact dI) only[aF,rE1,rE2,rE3,rE4,rE5,push_cast,seval]
       rw[if_neg (by simp;omega)]
       have hj:=GM hrg' (r:=((60*h+mi)*60+sec)*1000+0) (by omega)
       refine ag.intro cY.2 (by simp[cY]) ?_
       simp(disch:=try exact dI) only[cY,push_cast,seval]
       refine ab.pure hn rfl ?_
       refine zgZ ?_
       refine ab.pure hc rfl ?_
       simp(disch:=try exact dI) only[aF,rE1,rE2,rE3,rE4,rE5,push_cast,seval]
       refine aq hd rfl ?_
       simp(disch:=try exact dI) only[aF,rE1,rE2,rE3,rE4,rE5,push_cast,seval]
       refine aq hj rfl ?_
       exact qsZ
      ·subst hz
       rw[if_pos (Or.inl (by decide))]
       refine ag.intro cY.2 (by simp[cY]) ?_
       simp(disch:=try exact dI) only[cY,push_cast,seval]
       refine ab.pure hn rfl ?_
       refine zgZ ?_
       refine ab.pure hc rfl ?_
       simp(disch:=try exact dI) only[aF,rE1,rE2,rE3,rE4,rE5,push_cast,seval]
       refine aq hd rfl ?_
       simp(disch:=try exact dI) only[aF,rE1,rE2,rE3,rE4,rE5,push_cast,seval]
     ·rw[if_neg hr90]
      have hrd:(!decide (r=[90]))=true:=by simp[hr90]
      refine ag.intro cY.2 (by simp[cY]) ?_
      simp(disch:=try exact dI) only[cY,push_cast,seval]
      refine ab.pure hn rfl ?_
      refine zgZ ?_
      refine ab.pure hc rfl ?_
      simp(disch:=try exact dI) only[hrd,push_cast,seval]
structure NumsT (s:List UInt8)(y m d h mi sec:Int):Prop where
 len:19<=s.length
 day:cG (s.take 10)=ki y m d
 h1:((s.drop 11).take 2).all isD=true
 h2:h=gy 0 ((s.drop 11).take 2)
 m1:((s.drop 14).take 2).all isD=true
 m2:mi=gy 0 ((s.drop 14).take 2)
 s1:((s.drop 17).take 2).all isD=true
 s2:sec=gy 0 ((s.drop 17).take 2)
abbrev Qt:=Int×Int×List UInt8
def q0:Qt:=(0,0,[])
def rdB (s:List UInt8):Qt×Int:=if s=[84] then ((1,0,[]),0) else if s=[70] then (q0,0) else (q0,13)
def rdN (sc:Int)(s:List UInt8):Qt×Int:=if ¬ (bi s).2=0 then (q0,13) else if ¬ ((bi s).1.2:Int)=sc then (q0,18) else (((bi s).1.1,((bi s).1.2:Int),[]),0)
def rdT (s:List UInt8):Qt×Int:=if Lib.validD s=false then (q0,16) else if wrB s=false then (q0,6) else ((0,0,s),0)
def rdO:Option (List UInt8)->Qt×Int
 | some b=>((0,0,b),0)
 | none=>(q0,13)
def rdC (k sc:Int)(s:List UInt8):Qt×Int:=
 if k=1 then rdB s else if k=2\/k=3 then rdN sc s else if k=4 then rdT s else if k=5 then rdO (nk s)
 else if k=6 then (((cG s).1,0,[]),(cG s).2) else (((bY s).1,0,[]),(bY s).2)
def pl (k:Int)(q:Qt):PV:=iE k q.1 q.2.1 q.2.2
def rdP (k:Int)(q:Qt×Int):PV:=.tup [if q.2=0\/6<=k then pl k q.1 else eH,.int .i64 q.2]
theorem nL (k:Int)(q:Qt):rdP k (q,0) = .tup [pl k q,.int .i64 0]:=by unfold rdP;rw[if_pos (.inl rfl)]
theorem kZ {k:Int}{q:Qt}{e:Int}(hk:k<6)(he:¬ e=0):rdP k (q,e) = .tup [eH,.int .i64 e]:=by unfold rdP;rw[if_neg (fun h=>h.elim he (by omega))]
theorem zG {T:Nat}{p:PV}(k m M sc:Int)(w:List (List UInt8))(e:List Typ)(f:List TFd)(s:List UInt8)(hk:k<6):ag Tryz.prog (dW T p) 164 [.str s,(Typ.mk k m M sc w e f).pv] (rdP k (rdN sc s)):=by
 have h:=IL (T:=T) (p:=p) s
 unfold rdN
 generalize (bi s).1.1=n at *
 generalize (bi s).1.2=c at *
 generalize (bi s).2=z at *
 refine ag.intro Qq.2 (by simp[Qq]) ?_
 simp(disch:=try exact dI) only[Qq,Typ.pv_mk,push_cast,seval]
 refine ab.pure h rfl ?_
 by_cases h1:z=0
 ·rw[if_neg (fun q=>q h1)]
  by_cases h2:(c:Int)=sc
  ·rw[if_neg (fun q=>q h2),nL]
   simp(disch:=try exact dI) only[h1,h2,pl,iE,push_cast,seval]
  ·rw[if_pos h2,kZ hk (by decide)]
   simp(disch:=try exact dI) only[h1,h2,eH,push_cast,seval]
 ·rw[if_pos h1,kZ hk (by decide)]
  simp(disch:=try exact dI) only[h1,eH,push_cast,seval]
theorem OZ (sc:Int)(s:List UInt8):rdC 1 sc s=rdB s:=if_pos rfl
theorem LX (sc:Int)(s:List UInt8):rdC 4 sc s=rdT s:=by unfold rdC;rw[if_neg (by decide),if_neg (by decide),if_pos rfl]
theorem LW (sc:Int)(s:List UInt8):rdC 5 sc s=rdO (nk s):=by unfold rdC;rw[if_neg (by decide),if_neg (by decide),if_neg (by decide),if_pos rfl]
theorem LV (sc:Int)(s:List UInt8):rdC 6 sc s=(((cG s).1,0,[]),(cG s).2):=by unfold rdC;rw[if_neg (by decide),if_neg (by decide),if_neg (by decide),if_neg (by decide),if_pos rfl]
theorem LU (sc:Int)(s:List UInt8):rdC 7 sc s=(((bY s).1,0,[]),(bY s).2):=by unfold rdC;rw[if_neg (by decide),if_neg (by decide),if_neg (by decide),if_neg (by decide),if_neg (by decide)]
theorem yB {T:Nat}{p:PV}(m M sc:Int)(w:List (List UInt8))(e:List Typ)(f:List TFd)(s:List UInt8)(hs:s.length<=1000000):ag Tryz.prog (dW T p) 107 [.str s,(Typ.mk 1 m M sc w e f).pv] (rdP 1 (rdC 1 sc s)):=by
 rw[OZ]
 unfold rdB
 have hT:=toE (T:=T) (p:=p) (Ce true)
 have hF:=toE (T:=T) (p:=p) (Ce false)
 by_cases h1:s=[84]
 ·subst h1
  rw[if_pos rfl,nL]
  refine ag.intro eB.2 (by simp[eB]) ?_
  simp(disch:=try exact dI) only[eB,Typ.pv_mk,push_cast,seval]
  refine ab.pure hT rfl ?_
  simp(disch:=try exact dI) only[pl,iE,push_cast,seval]
 ·rw[if_neg h1]
  by_cases h2:s=[70]
  ·subst h2
   rw[if_pos rfl,nL]
   refine ag.intro eB.2 (by simp[eB]) ?_
   simp(disch:=try exact dI) only[eB,Typ.pv_mk,h1,push_cast,seval]
   refine ab.pure hF rfl ?_
   simp(disch:=try exact dI) only[pl,iE,q0,push_cast,seval]
  ·rw[if_neg h2,kZ (by decide) (by decide)]
   refine ag.intro eB.2 (by simp[eB]) ?_
   simp(disch:=try exact dI) only[eB,Typ.pv_mk,h1,h2,eH,push_cast,seval]
theorem tW {T:Nat}{p:PV}(k m M sc:Int)(w:List (List UInt8))(e:List Typ)(f:List TFd)(s:List UInt8)(h23:k=2\/k=3)(hs:s.length<=1000000):ag Tryz.prog (dW T p) 107 [.str s,(Typ.mk k m M sc w e f).pv] (rdP k (rdC k sc s)):=by
 rw[show rdC k sc s=rdN sc s by unfold rdC;rw[if_neg (by omega),if_pos h23]]
 have hn:=zG (T:=T) (p:=p) k m M sc w e f s (by omega)
 unfold rdP at hn ⊢
 have h1:¬ k=1:=by omega
 by_cases c:(rdN sc s).2=0\/6<=k
 ·rw[if_pos c] at hn ⊢
  simp only[pl,iE,Typ.pv_mk] at hn ⊢
  clear c
  generalize (rdN sc s).1.1=a at *
  generalize (rdN sc s).1.2.1=b at *
  generalize (rdN sc s).1.2.2=d at *
  generalize (rdN sc s).2=z at *
  refine ag.intro eB.2 (by simp[eB]) ?_
  rcases h23 with rfl | rfl
  ·simp(disch:=try exact dI) only[eB,Typ.pv_mk,push_cast,seval]
   refine ab.pure hn rfl ?_
   exact qsZ
  ·simp(disch:=try exact dI) only[eB,Typ.pv_mk,push_cast,seval]
   refine ab.pure hn rfl ?_
   exact qsZ
 ·rw[if_neg c] at hn ⊢
  simp only[eH,Typ.pv_mk] at hn ⊢
  clear c
  generalize (rdN sc s).2=z at *
  refine ag.intro eB.2 (by simp[eB]) ?_
  rcases h23 with rfl | rfl
  ·simp(disch:=try exact dI) only[eB,Typ.pv_mk,push_cast,seval]
   refine ab.pure hn rfl ?_
   exact qsZ
  ·simp(disch:=try exact dI) only[eB,Typ.pv_mk,push_cast,seval]
   refine ab.pure hn rfl ?_
   exact qsZ
theorem yA {T:Nat}{p:PV}(m M sc:Int)(w:List (List UInt8))(e:List Typ)(f:List TFd)(s:List UInt8)(hs:s.length<=1000000):ag Tryz.prog (dW T p) 107 [.str s,(Typ.mk 4 m M sc w e f).pv] (rdP 4 (rdC 4 sc s)):=by
 rw[LX]
 have h1:=toE (T:=T) (p:=p) (dU s)
 have h2:=toE (T:=T) (p:=p) (jd s (by omega))
 have h3:=toE (T:=T) (p:=p) (HI s)
 unfold rdT
 cases hv:Lib.validD s with
 | false=>
   rw[if_pos rfl,kZ (by decide) (by decide)]
   rw[hv] at h1
   refine ag.intro eB.2 (by simp[eB]) ?_
   simp(disch:=try exact dI) only[eB,Typ.pv_mk,push_cast,seval]
   refine ab.pure h1 rfl ?_
   simp(disch:=try exact dI) only[eH,push_cast,seval]
 | true=>
   rw[if_neg (by decide)]
   rw[hv] at h1
   cases hw:wrB s with
   | false=>
     rw[if_pos rfl,kZ (by decide) (by decide)]
     rw[hw] at h2
     refine ag.intro eB.2 (by simp[eB]) ?_
     simp(disch:=try exact dI) only[eB,Typ.pv_mk,push_cast,seval]
     refine ab.pure h1 rfl ?_
     refine zgZ ?_
     refine ab.pure h2 rfl ?_
     simp(disch:=try exact dI) only[eH,push_cast,seval]
   | true=>
     rw[if_neg (by decide),nL]
     rw[hw] at h2
     refine ag.intro eB.2 (by simp[eB]) ?_
     simp(disch:=try exact dI) only[eB,Typ.pv_mk,push_cast,seval]
     refine ab.pure h1 rfl ?_
     refine zgZ ?_
     refine ab.pure h2 rfl ?_
     refine zgZ ?_
     refine ab.pure h3 rfl ?_
     simp(disch:=try exact dI) only[pl,iE,push_cast,seval]
theorem yz {T:Nat}{p:PV}(m M sc:Int)(w:List (List UInt8))(e:List Typ)(f:List TFd)(s:List UInt8)(hs:s.length<=1000000):ag Tryz.prog (dW T p) 107 [.str s,(Typ.mk 5 m M sc w e f).pv] (rdP 5 (rdC 5 sc s)):=by
 rw[LW]
 have ho:=toE (T:=T) (p:=p) (zE s hs)
 cases hh:nk s with
 | none=>
   rw[hh] at ho
   simp only[IU,eH] at ho
   rw[rdO,kZ (by decide) (by decide)]
   refine ag.intro eB.2 (by simp[eB]) ?_
   simp(disch:=try exact dI) only[eB,Typ.pv_mk,push_cast,seval]
   refine ab.pure ho rfl ?_
   simp(disch:=try exact dI) only[eH,push_cast,seval]
 | some b=>
   rw[hh] at ho
   simp only[IU,iE] at ho
   rw[rdO,nL]
   refine ag.intro eB.2 (by simp[eB]) ?_
   simp(disch:=try exact dI) only[eB,Typ.pv_mk,push_cast,seval]
   refine ab.pure ho rfl ?_
   simp(disch:=try exact dI) only[pl,iE,push_cast,seval]
theorem yy {T:Nat}{p:PV}(m M sc:Int)(w:List (List UInt8))(e:List Typ)(f:List TFd)(s:List UInt8)(hs:s.length<=1000000):ag Tryz.prog (dW T p) 107 [.str s,(Typ.mk 6 m M sc w e f).pv] (rdP 6 (rdC 6 sc s)):=by
 rw[LV]
 have h:=toE (T:=T) (p:=p) (IK s)
 unfold rdP
 rw[if_pos (.inr (by decide))]
 generalize (cG s).1=n at *
 generalize (cG s).2=z at *
 refine ag.intro eB.2 (by simp[eB]) ?_
 simp(disch:=try exact dI) only[eB,Typ.pv_mk,push_cast,seval]
 refine ab.pure h rfl ?_
 simp(disch:=try exact dI) only[pl,iE,push_cast,seval]
theorem yx {T:Nat}{p:PV}(m M sc:Int)(w:List (List UInt8))(e:List Typ)(f:List TFd)(s:List UInt8)(hs:s.length<=1000000):ag Tryz.prog (dW T p) 107 [.str s,(Typ.mk 7 m M sc w e f).pv] (rdP 7 (rdC 7 sc s)):=by
 rw[LU]
 have h:=toE (T:=T) (p:=p) (pU s)
 unfold rdP
 rw[if_pos (.inr (by decide))]
 generalize (bY s).1=n at *
 generalize (bY s).2=z at *
 refine ag.intro eB.2 (by simp[eB]) ?_
 simp(disch:=try exact dI) only[eB,Typ.pv_mk,push_cast,seval]
 refine ab.pure h rfl ?_
 simp(disch:=try exact dI) only[pl,iE,push_cast,seval]
theorem Is {T:Nat}{p:PV}(k m M sc:Int)(w:List (List UInt8))(e:List Typ)(f:List TFd)(s:List UInt8)(hk:1<=k/\k<=7)(hs:s.length<=1000000):ag Tryz.prog (dW T p) 107 [.str s,(Typ.mk k m M sc w e f).pv] (rdP k (rdC k sc s)):=by
 have e1:k=1\/(k=2\/k=3)\/k=4\/k=5\/k=6\/k=7:=by omega
 rcases e1 with rfl | h23 | rfl | rfl | rfl | rfl
 ·exact yB m M sc w e f s hs
 ·exact tW k m M sc w e f s h23 hs
 ·exact yA m M sc w e f s hs
 ·exact yz m M sc w e f s hs
 ·exact yy m M sc w e f s hs
 ·exact yx m M sc w e f s hs
end Go.Proofs.YtbojpfpliibfbaaGreatDoor
