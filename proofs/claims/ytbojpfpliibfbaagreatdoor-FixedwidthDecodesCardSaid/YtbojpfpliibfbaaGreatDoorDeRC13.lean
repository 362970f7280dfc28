/- A part of the proof. -/
import Derived.Test.YtbojpfpliibfbaaGreatDoorDeRC10
set_option maxHeartbeats 16000000
set_option maxRecDepth 100000
set_option linter.unusedVariables false
set_option linter.unusedSimpArgs false
namespace Go.Proofs.YtbojpfpliibfbaaGreatDoor
open Go Go.Ab
attribute [local irreducible] vc
theorem rp (s:List UInt8):ak Tryz.prog ap 118 [.str s] (.tup [.int .i64 (cg s).1,.int .i64 (cg s).2]):=by
 have hf1:=rV s rm (by decide)
 have hf2:=rV s rn (by decide)
 have i1:=gP msT ksT s [46,48,48,48,90] rfl (by simp[msT])
 have i2:=gP msT ksT s [90] rfl (by simp[msT])
 rw[<- Fj] at i1
 rw[<- Fk] at i2
 unfold cg
 cases hv:bQ msT ksT s with
 | none=>
   have g1:aN s rm=false:=by
    cases hb:aN s rm with
    | false=>rfl
    | true=>obtain⟨p,hp,_⟩:=i1.1 hb;rw[hv] at hp;cases hp
   have g2:aN s rn=false:=by
    cases hb:aN s rn with
    | false=>rfl
    | true=>obtain⟨p,hp,_⟩:=i2.1 hb;rw[hv] at hp;cases hp
   rw[g1] at hf1
   rw[g2] at hf2
   simp only[rm] at hf1
   simp only[rn] at hf2
   refine ak.intro ey.2 (by simp[ey]) ?_
   simp(disch:=try exact dI) only[ey,push_cast,seval]
   refine ab.pure hf1 rfl ?_
   refine zgZ ?_
   refine ab.pure hf2 rfl ?_
   exact qsZ
 | some p=>
   obtain⟨l,r⟩:=p
   obtain⟨y,m,d,h,mi,sec,rfl,hr,N⟩:=QA hv
   have g1:aN s rm=aN r [46,48,48,48,90]:=by
    rw[Bool.eq_iff_iff,i1,hv]
    constructor
    ·rintro⟨p,hp,h2⟩;cases hp;exact h2
    ·intro h2;exact⟨_,rfl,h2⟩
   have g2:aN s rn=decide (r=[90]):=by
    rw[Bool.eq_iff_iff,i2,hv,<- pC]
    constructor
    ·rintro⟨p,hp,h2⟩;cases hp;exact h2
    ·intro h2;exact⟨_,rfl,h2⟩
   have hlen:=N.len
   have hsl:List.drop 20 (List.take 23 s)=(r.drop 1).take 3:=by rw[hr,List.drop_drop,List.drop_take]
   have e1:List.drop 11 (List.take 13 s)=(s.drop 11).take 2:=by rw[List.drop_take]
   have e2:List.drop 14 (List.take 16 s)=(s.drop 14).take 2:=by rw[List.drop_take]
   have e3:List.drop 17 (List.take 19 s)=(s.drop 17).take 2:=by rw[List.drop_take]
   have n1:=kq ((s.drop 11).take 2) (by rw[List.length_take];omega) N.h1
   have n2:=kq ((s.drop 14).take 2) (by rw[List.length_take];omega) N.m1
   have n3:=kq ((s.drop 17).take 2) (by rw[List.length_take];omega) N.s1
   have b1:=lQ N.h1
   have b2:=lQ N.m1
   have b3:=lQ N.s1
   rw[<- N.h2] at n1 b1
   rw[<- N.m2] at n2 b2
   rw[<- N.s2] at n3 b3
   have hd:=sQ (s.take 10)
   rw[N.day] at hd
   have hrg:=fun h=>iL (y:=y) (m:=m) (d:=d) h
   have hee:=uo y m d
   simp only
   rw[Ed]
   rw[g1] at hf1
   rw[g2] at hf2
   simp only[rm] at hf1
   simp only[rn] at hf2
   have hr19:r.length=s.length - 19:=by rw[hr,List.length_drop]
   clear i1 i2 g1 g2 N hv hr
   by_cases hA:aN r [46,48,48,48,90]=true/\(r.drop 1).take 3≠[48,48,48]
   ·rw[if_pos hA]
    have hl5:r.length=5:=e7 hA.1
    have hall:((r.drop 1).take 3).all isD=true:=by
     have h1:=hA.1
     rw[show ([46,48,48,48,90]:List UInt8)=[46]++(List.replicate 3 48++[90]) from rfl,fx _ _ _ (by simp),gQ,Bool.and_eq_true,Bool.and_eq_true] at h1
     exact (of_decide_eq_true h1.2.1).2
    have n0:=kq ((r.drop 1).take 3) (by rw[List.length_take];omega) hall
    have b0:=mX hall
    have hne:(!decide ((r.drop 1).take 3=[48,48,48]))=true:=by simp only[decide_eq_false hA.2,Bool.not_false]
    have hne':(r.drop 1).take 3≠[48,48,48]:=hA.2
    rw[hA.1] at hf1
    generalize ((r.drop 1).take 3)=q at *
    generalize ff 0 q=ms at *
    simp only
    unfold ve
    generalize gj y m d=R at *
    obtain⟨R1,R2⟩:=R
    simp only at hd hrg hee ⊢
    clear hA hall
    rcases hee with hz | hz
    ·have hrg2:=hrg hz
     subst hz
     by_cases c1:23<h
     ·rw[if_pos (Or.inr (Or.inl c1))]
      refine ak.intro ey.2 (by simp[ey]) ?_
      simp(disch:=try exact dI) only[ey,push_cast,seval]
      refine ab.pure hf1 rfl ?_
      simp(disch:=try exact dI) only[hsl,hne,push_cast,seval]
      refine ab.pure n0 rfl ?_
      refine zgZ ?_
      refine ab.pure hd rfl ?_
      simp(disch:=try exact dI) only[e1,e2,e3,push_cast,seval]
      refine ae n1 rfl ?_
      simp(disch:=try exact dI) only[e1,e2,e3,push_cast,seval]
      refine ae n2 rfl ?_
      simp(disch:=try exact dI) only[e1,e2,e3,push_cast,seval]
      refine ab.pure n3 rfl ?_
      simp(disch:=try exact dI) only[e1,e2,e3,push_cast,seval]
     by_cases c2:59<mi
     ·rw[if_pos (Or.inr (Or.inr (Or.inl c2)))]
      refine ak.intro ey.2 (by simp[ey]) ?_
      simp(disch:=try exact dI) only[ey,push_cast,seval]
      refine ab.pure hf1 rfl ?_
      simp(disch:=try exact dI) only[hsl,hne,push_cast,seval]
      refine ab.pure n0 rfl ?_
      refine zgZ ?_
      refine ab.pure hd rfl ?_
      simp(disch:=try exact dI) only[e1,e2,e3,push_cast,seval]
      refine ae n1 rfl ?_
      simp(disch:=try exact dI) only[e1,e2,e3,push_cast,seval]
      refine ae n2 rfl ?_
      simp(disch:=try exact dI) only[e1,e2,e3,push_cast,seval]
      refine ab.pure n3 rfl ?_
      simp(disch:=try exact dI) only[e1,e2,e3,push_cast,seval]
     by_cases c3:59<sec
     ·rw[if_pos (Or.inr (Or.inr (Or.inr c3)))]
      refine ak.intro ey.2 (by simp[ey]) ?_
      simp(disch:=try exact dI) only[ey,push_cast,seval]
      refine ab.pure hf1 rfl ?_
      simp(disch:=try exact dI) only[hsl,hne,push_cast,seval]
      refine ab.pure n0 rfl ?_
      refine zgZ ?_
      refine ab.pure hd rfl ?_
      simp(disch:=try exact dI) only[e1,e2,e3,push_cast,seval]
      refine ae n1 rfl ?_
      simp(disch:=try exact dI) only[e1,e2,e3,push_cast,seval]
      refine ae n2 rfl ?_
      simp(disch:=try exact dI) only[e1,e2,e3,push_cast,seval]
      refine ab.pure n3 rfl ?_
      simp(disch:=try exact dI) only[e1,e2,e3,push_cast,seval]
     rw[if_neg (by simp;omega)]
     have he:(R1*86400000+(((60*h+mi)*60+sec)*1000+ms))=R1*86400000+h*3600000+mi*60000+sec*1000+ms:=by omega
     rw[he]
     refine ak.intro ey.2 (by simp[ey]) ?_
     simp(disch:=try exact dI) only[ey,push_cast,seval]
     refine ab.pure hf1 rfl ?_
     simp(disch:=try exact dI) only[hsl,hne,push_cast,seval]
     refine ab.pure n0 rfl ?_
     refine zgZ ?_
     refine ab.pure hd rfl ?_
     simp(disch:=try exact dI) only[e1,e2,e3,push_cast,seval]
     refine ae n1 rfl ?_
     simp(disch:=try exact dI) only[e1,e2,e3,push_cast,seval]
     refine ae n2 rfl ?_
     simp(disch:=try exact dI) only[e1,e2,e3,push_cast,seval]
     refine ab.pure n3 rfl ?_
     simp(disch:=try exact dI) only[e1,e2,e3,push_cast,seval]
    ·subst hz
     rw[if_pos (Or.inl (by decide))]
     refine ak.intro ey.2 (by simp[ey]) ?_
     simp(disch:=try exact dI) only[ey,push_cast,seval]
     refine ab.pure hf1 rfl ?_
     simp(disch:=try exact dI) only[hsl,hne,push_cast,seval]
     refine ab.pure n0 rfl ?_
     refine zgZ ?_
     refine ab.pure hd rfl ?_
     simp(disch:=try exact dI) only[e1,e2,e3,push_cast,seval]
     refine ae n1 rfl ?_
     simp(disch:=try exact dI) only[e1,e2,e3,push_cast,seval]
     refine ae n2 rfl ?_
     simp(disch:=try exact dI) only[e1,e2,e3,push_cast,seval]
     refine ab.pure n3 rfl ?_
     simp(disch:=try exact dI) only[e1,e2,e3,push_cast,seval]
   ·rw[if_neg hA]
    by_cases hr90:r=[90]
    ·subst hr90
     rw[if_pos rfl]
     rw[show aN [90] [46,48,48,48,90]=false from rfl] at hf1
     rw[decide_eq_true rfl] at hf2
     simp only[List.length_cons,List.length_nil] at hr19
     simp only
     unfold ve
     generalize gj y m d=R at *
     obtain⟨R1,R2⟩:=R
     simp only at hd hrg hee ⊢
     rcases hee with hz | hz
     ·have hrg2:=hrg hz
      subst hz
      by_cases c1:23<h
      ·rw[if_pos (Or.inr (Or.inl c1))]
       refine ak.intro ey.2 (by simp[ey]) ?_
       simp(disch:=try exact dI) only[ey,push_cast,seval]
       refine ab.pure hf1 rfl ?_
       refine zgZ ?_
       refine ab.pure hf2 rfl ?_
       refine zgZ ?_
       refine ab.pure hd rfl ?_
       simp(disch:=try exact dI) only[e1,e2,e3,push_cast,seval]
       refine ae n1 rfl ?_
       simp(disch:=try exact dI) only[e1,e2,e3,push_cast,seval]
       refine ae n2 rfl ?_
       simp(disch:=try exact dI) only[e1,e2,e3,push_cast,seval]
       refine ab.pure n3 rfl ?_
       simp(disch:=try exact dI) only[e1,e2,e3,push_cast,seval]
      by_cases c2:59<mi
      ·rw[if_pos (Or.inr (Or.inr (Or.inl c2)))]
       refine ak.intro ey.2 (by simp[ey]) ?_
       simp(disch:=try exact dI) only[ey,push_cast,seval]
       refine ab.pure hf1 rfl ?_
       refine zgZ ?_
       refine ab.pure hf2 rfl ?_
       refine zgZ ?_
       refine ab.pure hd rfl ?_
       simp(disch:=try exact dI) only[e1,e2,e3,push_cast,seval]
       refine ae n1 rfl ?_
       simp(disch:=try exact dI) only[e1,e2,e3,push_cast,seval]
       refine ae n2 rfl ?_
       simp(disch:=try exact dI) only[e1,e2,e3,push_cast,seval]
       refine ab.pure n3 rfl ?_
       simp(disch:=try exact dI) only[e1,e2,e3,push_cast,seval]
      by_cases c3:59<sec
      ·rw[if_pos (Or.inr (Or.inr (Or.inr c3)))]
       refine ak.intro ey.2 (by simp[ey]) ?_
       simp(disch:=try exact dI) only[ey,push_cast,seval]
       refine ab.pure hf1 rfl ?_
       refine zgZ ?_
       refine ab.pure hf2 rfl ?_
       refine zgZ ?_
       refine ab.pure hd rfl ?_
       simp(disch:=try exact dI) only[e1,e2,e3,push_cast,seval]
       refine ae n1 rfl ?_
       simp(disch:=try exact dI) only[e1,e2,e3,push_cast,seval]
       refine ae n2 rfl ?_
       simp(disch:=try exact dI) only[e1,e2,e3,push_cast,seval]
       refine ab.pure n3 rfl ?_
       simp(disch:=try exact dI) only[e1,e2,e3,push_cast,seval]
      rw[if_neg (by simp;omega)]
      have he:(R1*86400000+(((60*h+mi)*60+sec)*1000+0))=R1*86400000+h*3600000+mi*60000+sec*1000+0:=by omega
      rw[he]
      refine ak.intro ey.2 (by simp[ey]) ?_
      simp(disch:=try exact dI) only[ey,push_cast,seval]
      refine ab.pure hf1 rfl ?_
      refine zgZ ?_
      refine ab.pure hf2 rfl ?_
      refine zgZ ?_
      refine ab.pure hd rfl ?_
      simp(disch:=try exact dI) only[e1,e2,e3,push_cast,seval]
      refine ae n1 rfl ?_
      simp(disch:=try exact dI) only[e1,e2,e3,push_cast,seval]
      refine ae n2 rfl ?_
      simp(disch:=try exact dI) only[e1,e2,e3,push_cast,seval]
      refine ab.pure n3 rfl ?_
      simp(disch:=try exact dI) only[e1,e2,e3,push_cast,seval]
     ·subst hz
      rw[if_pos (Or.inl (by decide))]
      refine ak.intro ey.2 (by simp[ey]) ?_
      simp(disch:=try exact dI) only[ey,push_cast,seval]
      refine ab.pure hf1 rfl ?_
      refine zgZ ?_
      refine ab.pure hf2 rfl ?_
      refine zgZ ?_
      refine ab.pure hd rfl ?_
      simp(disch:=try exact dI) only[e1,e2,e3,push_cast,seval]
      refine ae n1 rfl ?_
      simp(disch:=try exact dI) only[e1,e2,e3,push_cast,seval]
      refine ae n2 rfl ?_
      simp(disch:=try exact dI) only[e1,e2,e3,push_cast,seval]
      refine ab.pure n3 rfl ?_
      simp(disch:=try exact dI) only[e1,e2,e3,push_cast,seval]
    ·rw[if_neg hr90]
     rw[decide_eq_false hr90] at hf2
     cases hb:aN r [46,48,48,48,90] with
     | false=>
       rw[hb] at hf1
       refine ak.intro ey.2 (by simp[ey]) ?_
       simp(disch:=try exact dI) only[ey,push_cast,seval]
       refine ab.pure hf1 rfl ?_
       refine zgZ ?_
       refine ab.pure hf2 rfl ?_
       exact qsZ
     | true=>
       have hl5:r.length=5:=e7 hb
       have hq:(r.drop 1).take 3=[48,48,48]:=by
        rw[hb] at hA
        exact Decidable.of_not_not fun h=>hA ⟨rfl,h⟩
       rw[hb] at hf1
       refine ak.intro ey.2 (by simp[ey]) ?_
       simp(disch:=try exact dI) only[ey,push_cast,seval]
       refine ab.pure hf1 rfl ?_
       simp(disch:=try exact dI) only[hsl,hq,push_cast,seval]
       refine ab.pure hf2 rfl ?_
       exact qsZ
abbrev Qt:=Int×Int×List UInt8
def q0:Qt:=(0,0,[])
def rdB (s:List UInt8):Qt×Int:=if s=[84] then ((1,0,[]),0) else if s=[70] then (q0,0) else (q0,13)
def rdN (sc:Int)(s:List UInt8):Qt×Int:=if ¬ (aZ s).2=0 then (q0,13) else if ¬ ((aZ s).1.2:Int)=sc then (q0,18) else (((aZ s).1.1,((aZ s).1.2:Int),[]),0)
def rdT (s:List UInt8):Qt×Int:=if Lib.validD s=false then (q0,16) else if wrB s=false then (q0,6) else ((0,0,s),0)
def rdO:Option (List UInt8)->Qt×Int
 | some b=>((0,0,b),0)
 | none=>(q0,13)
def rdC (k sc:Int)(s:List UInt8):Qt×Int:=
 if k=1 then rdB s else if k=2\/k=3 then rdN sc s else if k=4 then rdT s else if k=5 then rdO (kK s)
 else if k=6 then (((bU s).1,0,[]),(bU s).2) else (((cg s).1,0,[]),(cg s).2)
def jq (k:Int)(q:Qt):PV:=eP k q.1 q.2.1 q.2.2
def rdP (k:Int)(q:Qt×Int):PV:=.tup [if q.2=0\/6<=k then jq k q.1 else cl,.int .i64 q.2]
theorem oF (k:Int)(q:Qt):rdP k (q,0) = .tup [jq k q,.int .i64 0]:=by unfold rdP;rw[if_pos (.inl rfl)]
theorem ma {k:Int}{q:Qt}{e:Int}(hk:k<6)(he:¬ e=0):rdP k (q,e) = .tup [cl,.int .i64 e]:=by unfold rdP;rw[if_neg (fun h=>h.elim he (by omega))]
theorem AY {T:Nat}{p:PV}(k m M sc:Int)(w:List (List UInt8))(e:List Typ)(f:List TFd)(s:List UInt8)(hk:k<6):ak Tryz.prog (d6 T p) 164 [.str s,(Typ.mk k m M sc w e f).pv] (rdP k (rdN sc s)):=by
 have h:=JV (T:=T) (p:=p) s
 unfold rdN
 generalize (aZ s).1.1=n at *
 generalize (aZ s).1.2=c at *
 generalize (aZ s).2=z at *
 refine ak.intro R6.2 (by simp[R6]) ?_
 simp(disch:=try exact dI) only[R6,Typ.pv_mk,push_cast,seval]
 refine ab.pure h rfl ?_
 by_cases h1:z=0
 ·rw[if_neg (fun q=>q h1)]
  by_cases h2:(c:Int)=sc
  ·rw[if_neg (fun q=>q h2),oF]
   simp(disch:=try exact dI) only[h1,h2,jq,eP,push_cast,seval]
  ·rw[if_pos h2,ma hk (by decide)]
   simp(disch:=try exact dI) only[h1,h2,cl,push_cast,seval]
 ·rw[if_pos h1,ma hk (by decide)]
  simp(disch:=try exact dI) only[h1,cl,push_cast,seval]
theorem Nj (sc:Int)(s:List UInt8):rdC 1 sc s=rdB s:=if_pos rfl
theorem Ni (sc:Int)(s:List UInt8):rdC 4 sc s=rdT s:=by unfold rdC;rw[if_neg (by decide),if_neg (by decide),if_pos rfl]
theorem Nh (sc:Int)(s:List UInt8):rdC 5 sc s=rdO (kK s):=by unfold rdC;rw[if_neg (by decide),if_neg (by decide),if_neg (by decide),if_pos rfl]
theorem JF (sc:Int)(s:List UInt8):rdC 6 sc s=(((bU s).1,0,[]),(bU s).2):=by unfold rdC;rw[if_neg (by decide),if_neg (by decide),if_neg (by decide),if_neg (by decide),if_pos rfl]
theorem JE (sc:Int)(s:List UInt8):rdC 7 sc s=(((cg s).1,0,[]),(cg s).2):=by unfold rdC;rw[if_neg (by decide),if_neg (by decide),if_neg (by decide),if_neg (by decide),if_neg (by decide)]
theorem zS {T:Nat}{p:PV}(m M sc:Int)(w:List (List UInt8))(e:List Typ)(f:List TFd)(s:List UInt8)(hs:s.length<=1000000):ak Tryz.prog (d6 T p) 107 [.str s,(Typ.mk 1 m M sc w e f).pv] (rdP 1 (rdC 1 sc s)):=by
 rw[Nj]
 unfold rdB
 have hT:=toE (T:=T) (p:=p) (Dm true)
 have hF:=toE (T:=T) (p:=p) (Dm false)
 by_cases h1:s=[84]
 ·subst h1
  rw[if_pos rfl,oF]
  refine ak.intro eI.2 (by simp[eI]) ?_
  simp(disch:=try exact dI) only[eI,Typ.pv_mk,push_cast,seval]
  refine ab.pure hT rfl ?_
  simp(disch:=try exact dI) only[jq,eP,push_cast,seval]
 ·rw[if_neg h1]
  by_cases h2:s=[70]
  ·subst h2
   rw[if_pos rfl,oF]
   refine ak.intro eI.2 (by simp[eI]) ?_
   simp(disch:=try exact dI) only[eI,Typ.pv_mk,h1,push_cast,seval]
   refine ab.pure hF rfl ?_
   simp(disch:=try exact dI) only[jq,eP,q0,push_cast,seval]
  ·rw[if_neg h2,ma (by decide) (by decide)]
   refine ak.intro eI.2 (by simp[eI]) ?_
   simp(disch:=try exact dI) only[eI,Typ.pv_mk,h1,h2,cl,push_cast,seval]
theorem vM {T:Nat}{p:PV}(k m M sc:Int)(w:List (List UInt8))(e:List Typ)(f:List TFd)(s:List UInt8)(h23:k=2\/k=3)(hs:s.length<=1000000):ak Tryz.prog (d6 T p) 107 [.str s,(Typ.mk k m M sc w e f).pv] (rdP k (rdC k sc s)):=by
 rw[show rdC k sc s=rdN sc s by unfold rdC;rw[if_neg (by omega),if_pos h23]]
 have hn:=AY (T:=T) (p:=p) k m M sc w e f s (by omega)
 unfold rdP at hn ⊢
 have h1:¬ k=1:=by omega
 by_cases c:(rdN sc s).2=0\/6<=k
 ·rw[if_pos c] at hn ⊢
  simp only[jq,eP,Typ.pv_mk] at hn ⊢
  clear c
  generalize (rdN sc s).1.1=a at *
  generalize (rdN sc s).1.2.1=b at *
  generalize (rdN sc s).1.2.2=d at *
  generalize (rdN sc s).2=z at *
  refine ak.intro eI.2 (by simp[eI]) ?_
  rcases h23 with rfl | rfl
  ·simp(disch:=try exact dI) only[eI,Typ.pv_mk,push_cast,seval]
   refine ab.pure hn rfl ?_
   exact qsZ
  ·simp(disch:=try exact dI) only[eI,Typ.pv_mk,push_cast,seval]
   refine ab.pure hn rfl ?_
   exact qsZ
 ·rw[if_neg c] at hn ⊢
  simp only[cl,Typ.pv_mk] at hn ⊢
  clear c
  generalize (rdN sc s).2=z at *
  refine ak.intro eI.2 (by simp[eI]) ?_
  rcases h23 with rfl | rfl
  ·simp(disch:=try exact dI) only[eI,Typ.pv_mk,push_cast,seval]
   refine ab.pure hn rfl ?_
   exact qsZ
  ·simp(disch:=try exact dI) only[eI,Typ.pv_mk,push_cast,seval]
   refine ab.pure hn rfl ?_
   exact qsZ
theorem zR {T:Nat}{p:PV}(m M sc:Int)(w:List (List UInt8))(e:List Typ)(f:List TFd)(s:List UInt8)(hs:s.length<=1000000):ak Tryz.prog (d6 T p) 107 [.str s,(Typ.mk 4 m M sc w e f).pv] (rdP 4 (rdC 4 sc s)):=by
 rw[Ni]
 have h1:=toE (T:=T) (p:=p) (sC s)
 have h2:=toE (T:=T) (p:=p) (od s (by omega))
 have h3:=toE (T:=T) (p:=p) (IW s)
 unfold rdT
 cases hv:Lib.validD s with
 | false=>
   rw[if_pos rfl,ma (by decide) (by decide)]
   rw[hv] at h1
   refine ak.intro eI.2 (by simp[eI]) ?_
   simp(disch:=try exact dI) only[eI,Typ.pv_mk,push_cast,seval]
   refine ab.pure h1 rfl ?_
   simp(disch:=try exact dI) only[cl,push_cast,seval]
 | true=>
   rw[if_neg (by decide)]
   rw[hv] at h1
   cases hw:wrB s with
   | false=>
     rw[if_pos rfl,ma (by decide) (by decide)]
     rw[hw] at h2
     refine ak.intro eI.2 (by simp[eI]) ?_
     simp(disch:=try exact dI) only[eI,Typ.pv_mk,push_cast,seval]
     refine ab.pure h1 rfl ?_
     refine zgZ ?_
     refine ab.pure h2 rfl ?_
     simp(disch:=try exact dI) only[cl,push_cast,seval]
   | true=>
     rw[if_neg (by decide),oF]
     rw[hw] at h2
     refine ak.intro eI.2 (by simp[eI]) ?_
     simp(disch:=try exact dI) only[eI,Typ.pv_mk,push_cast,seval]
     refine ab.pure h1 rfl ?_
     refine zgZ ?_
     refine ab.pure h2 rfl ?_
     refine zgZ ?_
     refine ab.pure h3 rfl ?_
     simp(disch:=try exact dI) only[jq,eP,push_cast,seval]
theorem zP {T:Nat}{p:PV}(m M sc:Int)(w:List (List UInt8))(e:List Typ)(f:List TFd)(s:List UInt8)(hs:s.length<=1000000):ak Tryz.prog (d6 T p) 107 [.str s,(Typ.mk 5 m M sc w e f).pv] (rdP 5 (rdC 5 sc s)):=by
 rw[Nh]
 have ho:=toE (T:=T) (p:=p) (AW s hs)
 cases hh:kK s with
 | none=>
   rw[hh] at ho
   simp only[J3,cl] at ho
   rw[rdO,ma (by decide) (by decide)]
   refine ak.intro eI.2 (by simp[eI]) ?_
   simp(disch:=try exact dI) only[eI,Typ.pv_mk,push_cast,seval]
   refine ab.pure ho rfl ?_
   simp(disch:=try exact dI) only[cl,push_cast,seval]
 | some b=>
   rw[hh] at ho
   simp only[J3,eP] at ho
   rw[rdO,oF]
   refine ak.intro eI.2 (by simp[eI]) ?_
   simp(disch:=try exact dI) only[eI,Typ.pv_mk,push_cast,seval]
   refine ab.pure ho rfl ?_
   simp(disch:=try exact dI) only[jq,eP,push_cast,seval]
theorem zO {T:Nat}{p:PV}(m M sc:Int)(w:List (List UInt8))(e:List Typ)(f:List TFd)(s:List UInt8)(hs:s.length<=1000000):ak Tryz.prog (d6 T p) 107 [.str s,(Typ.mk 6 m M sc w e f).pv] (rdP 6 (rdC 6 sc s)):=by
 rw[JF]
 have h:=toE (T:=T) (p:=p) (JU s)
 unfold rdP
 rw[if_pos (.inr (by decide))]
 generalize (bU s).1=n at *
 generalize (bU s).2=z at *
 refine ak.intro eI.2 (by simp[eI]) ?_
 simp(disch:=try exact dI) only[eI,Typ.pv_mk,push_cast,seval]
 refine ab.pure h rfl ?_
 simp(disch:=try exact dI) only[jq,eP,push_cast,seval]
theorem zN {T:Nat}{p:PV}(m M sc:Int)(w:List (List UInt8))(e:List Typ)(f:List TFd)(s:List UInt8)(hs:s.length<=1000000):ak Tryz.prog (d6 T p) 107 [.str s,(Typ.mk 7 m M sc w e f).pv] (rdP 7 (rdC 7 sc s)):=by
 rw[JE]
 have h:=toE (T:=T) (p:=p) (rq s)
 unfold rdP
 rw[if_pos (.inr (by decide))]
 generalize (cg s).1=n at *
 generalize (cg s).2=z at *
 refine ak.intro eI.2 (by simp[eI]) ?_
 simp(disch:=try exact dI) only[eI,Typ.pv_mk,push_cast,seval]
 refine ab.pure h rfl ?_
 simp(disch:=try exact dI) only[jq,eP,push_cast,seval]
theorem Jz {T:Nat}{p:PV}(k m M sc:Int)(w:List (List UInt8))(e:List Typ)(f:List TFd)(s:List UInt8)(hk:1<=k/\k<=7)(hs:s.length<=1000000):ak Tryz.prog (d6 T p) 107 [.str s,(Typ.mk k m M sc w e f).pv] (rdP k (rdC k sc s)):=by
 have e1:k=1\/(k=2\/k=3)\/k=4\/k=5\/k=6\/k=7:=by omega
 rcases e1 with rfl | h23 | rfl | rfl | rfl | rfl
 ·exact zS m M sc w e f s hs
 ·exact vM k m M sc w e f s h23 hs
 ·exact zR m M sc w e f s hs
 ·exact zP m M sc w e f s hs
 ·exact zO m M sc w e f s hs
 ·exact zN m M sc w e f s hs
def Dr:List (List UInt8)->List Nat->List Int->List UInt8
 | m::ms,k::ks,v::l=>m++(bn k v.toNat++Dr ms ks l)
 | _,_,_=>[]
theorem oM {p s:List UInt8}(h:gp p s=true):s=p++s.drop p.length:=by
 have h1:=(of_decide_eq_true h).1
 have h2:=List.take_append_drop p.length s
 rw[h1] at h2
 exact h2.symm
theorem o8 {k:Nat}{s:List UInt8}{p:Int×List UInt8}(h:lG k s=some p):s=bn k p.1.toNat++p.2/\0<=p.1:=by
 unfold lG at h
 split at h
 ·rename_i hh
  cases h
  have e:=FC (s.take k) hh.2
  rw[List.length_take,Nat.min_eq_left hh.1] at e
  simp only
  rw[e,List.take_append_drop]
  exact⟨rfl,(de _ 0 (by omega) hh.2).1⟩
 ·cases h
theorem oV:∀ (ms:List (List UInt8)) (ks:List Nat) (s:List UInt8) (l:List Int) (r:List UInt8),bQ ms ks s=some (l,r)->s=Dr ms ks l++r/\∀ x,x∈l->0<=x
 | [],ks,s,l,r,h=>by
   simp only[bQ,Option.some.injEq,Prod.mk.injEq] at h
   obtain⟨rfl,rfl⟩:=h
   exact⟨by simp[Dr],by simp⟩
 | m::ms,[],s,l,r,h=>by simp[bQ] at h
 | m::ms,k::ks,s,l,r,h=>by
   simp only[bQ] at h
   split at h
   ·rename_i hp
    split at h
    ·rename_i p hn
     simp only[Option.map_eq_some_iff] at h
     obtain⟨q,hq,he⟩:=h
     cases he
     obtain⟨q1,q2⟩:=q
     have ih:=oV ms ks p.2 q1 q2 hq
     have hb:=o8 hn
     refine⟨?_,?_⟩
     ·rw[Dr,List.append_assoc,List.append_assoc,<- ih.1,<- hb.1]
      exact oM hp
     ·intro x hx
      rcases List.mem_cons.1 hx with rfl | hx
      ·exact hb.2
      ·exact ih.2 x hx
    ·cases h
   ·cases h
theorem CM {y m d n:Int}(h:gj y m d=(n,0)):DateOk y m.toNat d/\n=up y m.toNat d - 719162:=by
 unfold gj at h
 split at h
 ·rename_i hd
  cases h
  exact⟨(nN hd).1,rfl⟩
 ·simp at h
theorem vj {r:List UInt8}{ms:Int}(h:qJ r=some ms):0<=ms/\ms<=999/\r=(if ms.toNat=0 then [] else [46]++bn 3 ms.toNat)++[90]:=by
 unfold qJ at h
 split at h
 ·rename_i hp
  split at h
  ·rename_i p hn
   split at h
   ·cases h
   ·rename_i hc
    cases h
    have hb:=o8 hn
    have hle:p.1<=999:=by
     unfold lG at hn
     split at hn
     ·rename_i hh
      cases hn
      exact (mX hh.2).2
     ·cases hn
    have hnz:p.1≠0:=fun h=>hc (Or.inl h)
    have hq:p.2=[90]:=Decidable.of_not_not fun h=>hc (Or.inr h)
    refine⟨hb.2,hle,?_⟩
    rw[if_neg (by omega)]
    rw[hq] at hb
    have:=oM hp
    rw[this]
    have e:=hb.1
    simp only[List.length_cons,List.length_nil,Nat.zero_add] at e ⊢
    rw[e,List.append_assoc]
  ·cases h
 ·split at h
  ·rename_i hr
   cases h
   exact⟨by omega,by omega,by simp[hr]⟩
  ·cases h
theorem rr {s:List UInt8}{n:Int}(h:cg s=(n,0)):∃ (y:Int) (m:Nat) (d:Int) (hh mi sec ms:Nat),DateOk y m d/\hh<=23/\mi<=59/\sec<=59/\ms<=999 /\
  n=(up y m d - 719162)*86400000+(((60*(hh:Int)+mi)*60+sec)*1000+ms)/\s=MH (MI y m d) hh mi sec ms:=by
 unfold cg at h
 split at h
 ·rename_i y m d hh mi sec r hn
  split at h
  ·rename_i ms ht
   obtain⟨hb,hpos⟩:=oV _ _ _ _ _ hn
   obtain⟨t1,t2,t3⟩:=vj ht
   unfold ve at h
   split at h
   ·simp at h
   ·rename_i hc
    have hz:(gj y m d).2=0:=Decidable.of_not_not fun h=>hc (Or.inl h)
    have b1:¬ 23<hh:=fun h=>hc (Or.inr (Or.inl h))
    have b2:¬ 59<mi:=fun h=>hc (Or.inr (Or.inr (Or.inl h)))
    have b3:¬ 59<sec:=fun h=>hc (Or.inr (Or.inr (Or.inr h)))
    have p1:=hpos hh (by simp)
    have p2:=hpos mi (by simp)
    have p3:=hpos sec (by simp)
    obtain⟨d1,d2⟩:=CM (y:=y) (m:=m) (d:=d) (n:=(gj y m d).1) (by rw[<- hz])
    have e:=congrArg Prod.fst h
    simp only at e
    refine⟨y,m.toNat,d,hh.toNat,mi.toNat,sec.toNat,ms.toNat,d1,by omega,by omega,by omega,by omega,?_,?_⟩
    ·rw[<- e,d2];omega
    ·rw[hb,t3]
     simp[Dr,msT,ksT,MH,MI]
  ·simp at h
 ·simp at h
end Go.Proofs.YtbojpfpliibfbaaGreatDoor
