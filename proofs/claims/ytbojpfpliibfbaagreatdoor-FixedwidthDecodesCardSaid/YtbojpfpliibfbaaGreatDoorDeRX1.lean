/- A part of the proof. -/
import Derived.Test.YtbojpfpliibfbaaGreatDoorDeRC18
set_option maxHeartbeats 16000000
set_option maxRecDepth 100000
set_option linter.unusedVariables false
set_option linter.unusedSimpArgs false
namespace Go.Proofs.YtbojpfpliibfbaaGreatDoor
open Go Go.Ab
attribute [local irreducible] vc
def trL:List UInt8->List UInt8
 | []=>[]
 | c::r=>if c=32 then trL r else c::r
def trR (s:List UInt8):List UInt8:=(trL s.reverse).reverse
theorem qF:trR []=[]:=rfl
theorem D7 (s:List UInt8)(c:UInt8):trR (s++[c])=if c=32 then trR s else s++[c]:=by
 unfold trR
 rw[List.reverse_append,List.reverse_singleton,List.singleton_append,trL]
 split
 ·rfl
 ·simp
theorem yS:∀ s:List UInt8,(trL s).length<=s.length
 | []=>by simp[trL]
 | c::r=>by
   rw[trL]
   split
   ·have:=yS r
    rw[List.length_cons];omega
   ·exact Nat.le_refl _
theorem MG (s:List UInt8):(trR s).length<=s.length:=by
 have:=yS s.reverse
 rw[List.length_reverse] at this
 unfold trR;rw[List.length_reverse];exact this
theorem c32 {c:UInt8}(h:¬ c=32):¬ (c.toNat:Int)=32:=fun e=>h (UInt8.toNat_inj.1 (by have:(32:UInt8).toNat=32:=rfl;omega))
theorem BJ (x:List UInt8):x=[]\/∃ c r,x[0]? = some c/\x.drop 1=r/\(0:Int)<(x.length:Int)/\trL x=(if c=32 then trL r else x)/\r.length+1=x.length:=by
 cases x with
 | nil=>exact .inl rfl
 | cons c r=>exact .inr ⟨c,r,rfl,rfl,by simp only[List.length_cons];omega,by rw[trL],rfl⟩
theorem Bq (x:List UInt8):x=[]\/∃ (c:UInt8) (q:Nat) (r:List UInt8),x.length=q+1/\x[q]? = some c/\x.take q=r/\trR x=(if c=32 then trR r else x)/\r.length=q:=by
 rcases List.eq_nil_or_concat x with h | ⟨r,c,h⟩
 ·exact .inl h
 ·rw[List.concat_eq_append] at h
  subst h
  exact .inr ⟨c,r.length,r,by simp,by simp,by simp,D7 r c,rfl⟩
theorem D6 (s:List UInt8):ak Tryz.prog ap 156 [.str s,.int .u8 32] (.str (trL s)):=by
 obtain⟨R,hR⟩:∃ R,R=trL s:=⟨_,rfl⟩
 rw[<- hR]
 refine ak.intro R8.2 (by simp[R8]) ?_
 simp(disch:=try exact dI) only[R8,push_cast,seval]
 refine am ([]) (fun x:List UInt8=>[(0,.pv (.str x))]) (fun _=>[]) (fun x=>trL x=R) (fun x=>x.length) (s) ?_;intro e0 σ0 n0 h0;simp(disch:=try exact dI) only[push_cast,seval] at h0;obtain⟨rfl,rfl,rfl⟩:=h0;refine⟨?_,?_,?_⟩
 ·exact qsZ
 ·exact hR.symm
 rintro x hx
 rcases BJ x with rfl | ⟨c,r,h1,h2,h3,h4,h5⟩
 ·rw[trL] at hx
  subst hx
  exact qsZ
 ·rw[h4] at hx
  by_cases hc:c=32
  ·rw[if_pos hc] at hx
   subst hc
   simp(disch:=try exact dI) only[h3,h1,h2,List.take_length,push_cast,seval]
   exact⟨r,aI qsZ,hx,by omega⟩
  ·rw[if_neg hc] at hx
   subst hx
   have:=c32 hc
   simp(disch:=try exact dI) only[h3,h1,this,push_cast,seval]
theorem D5 (s:List UInt8)(hs:s.length<=1000000):ak Tryz.prog ap 160 [.str s,.int .u8 32] (.str (trR s)):=by
 obtain⟨R,hR⟩:∃ R,R=trR s:=⟨_,rfl⟩
 rw[<- hR]
 refine ak.intro R7.2 (by simp[R7]) ?_
 simp(disch:=try exact dI) only[R7,push_cast,seval]
 refine am ([]) (fun x:List UInt8=>[(0,.pv (.str x))]) (fun _=>[]) (fun x=>trR x=R/\x.length<=s.length) (fun x=>x.length) (s) ?_;intro e0 σ0 n0 h0;simp(disch:=try exact dI) only[push_cast,seval] at h0;obtain⟨rfl,rfl,rfl⟩:=h0;refine⟨?_,?_,?_⟩
 ·exact qsZ
 ·exact⟨hR.symm,Nat.le_refl _⟩
 rintro x ⟨hx,hl⟩
 rcases Bq x with rfl | ⟨c,q,r,h1,h2,h3,h4,h5⟩
 ·rw[qF] at hx
  subst hx
  exact qsZ
 ·rw[h4] at hx
  have h0:(0:Int)<(q:Int)+1:=by omega
  by_cases hc:c=32
  ·rw[if_pos hc] at hx
   subst hc
   simp(disch:=try exact dI) only[h1,h0,h2,h3,Int.add_sub_cancel,push_cast,seval]
   exact⟨r,aI qsZ,⟨hx,by omega⟩,by omega⟩
  ·rw[if_neg hc] at hx
   subst hx
   have:=c32 hc
   simp(disch:=try exact dI) only[h1,h0,h2,this,Int.add_sub_cancel,push_cast,seval]
theorem sI (s:List UInt8):ak Tryz.prog ap 105 [.str s,.str [32]] (.str (trL s)):=by
 have h:=D6 s
 by_cases h0:s=[]
 ·subst h0
  rw[trL]
  refine ak.intro Mv.2 (by simp[Mv]) ?_
  simp(disch:=try exact dI) only[Mv,push_cast,seval]
 ·refine ak.intro Mv.2 (by simp[Mv]) ?_
  simp(disch:=try exact dI) only[Mv,h0,push_cast,seval]
  refine ab.pure h rfl ?_
  exact qsZ
theorem sH (s:List UInt8)(hs:s.length<=1000000):ak Tryz.prog ap 106 [.str s,.str [32]] (.str (trR s)):=by
 have h:=D5 s hs
 by_cases h0:s=[]
 ·subst h0
  rw[qF]
  refine ak.intro Mu.2 (by simp[Mu]) ?_
  simp(disch:=try exact dI) only[Mu,push_cast,seval]
 ·refine ak.intro Mu.2 (by simp[Mu]) ?_
  simp(disch:=try exact dI) only[Mu,h0,push_cast,seval]
  refine ab.pure h rfl ?_
  exact qsZ
def cm (k:Int)(s:List UInt8):List UInt8:=if k=2\/k=3 then trL s else trR s
theorem qP (k:Int)(s:List UInt8):(cm k s).length<=s.length:=by
 unfold cm
 split
 ·exact yS s
 ·exact MG s
theorem lV (k:Int)(s:List UInt8)(hs:s.length<=1000000):ak Tryz.prog ap 58 [.int .i64 k,.str s] (.str (cm k s)):=by
 have h101:=EI k
 unfold cm
 by_cases hk:k=2\/k=3
 ·rw[decide_eq_true hk] at h101
  rw[if_pos hk]
  obtain⟨R,hR⟩:∃ R,R=trL s:=⟨_,rfl⟩
  rw[<- hR]
  refine ak.intro Q58.2 (by simp[Q58]) ?_
  simp(disch:=try exact dI) only[Q58,push_cast,seval]
  refine am ([]) (fun x:List UInt8=>[(1,.pv (.str x))]) (fun _=>[]) (fun x=>trL x=R) (fun x=>x.length) (s) ?_;intro e0 σ0 n0 h0;simp(disch:=try exact dI) only[push_cast,seval] at h0;obtain⟨rfl,rfl,rfl⟩:=h0;refine⟨?_,?_,?_⟩
  ·exact qsZ
  ·exact hR.symm
  rintro x hx
  rcases BJ x with rfl | ⟨c,r,h1,h2,h3,h4,h5⟩
  ·rw[trL] at hx
   subst hx
   refine zgZ ?_
   refine ab.pure h101 rfl ?_
   refine zgZ ?_
   refine am ([]) (fun i:Nat=>[]) (fun _=>[]) (fun i=>i=0) (fun i=>1 - i) (0) ?_;intro e0 σ0 n0 h0;simp(disch:=try exact dI) only[push_cast,seval] at h0;obtain⟨rfl,rfl,rfl⟩:=h0;refine⟨?_,?_,?_⟩
   ·exact qsZ
   ·rfl
   rintro i rfl
   refine zgZ ?_
   refine ab.pure h101 rfl ?_
   exact qsZ
  ·rw[h4] at hx
   by_cases hc:c=32
   ·rw[if_pos hc] at hx
    subst hc
    refine zgZ ?_
    refine ab.pure h101 rfl ?_
    simp(disch:=try exact dI) only[h3,h1,h2,List.take_length,push_cast,seval]
    exact⟨r,aI qsZ,hx,by omega⟩
   ·rw[if_neg hc] at hx
    subst hx
    have:=c32 hc
    refine zgZ ?_
    refine ab.pure h101 rfl ?_
    simp(disch:=try exact dI) only[h3,h1,this,push_cast,seval]
    refine am ([]) (fun i:Nat=>[]) (fun _=>[]) (fun i=>i=0) (fun i=>1 - i) (0) ?_;intro e0 σ0 n0 h0;simp(disch:=try exact dI) only[push_cast,seval] at h0;obtain⟨rfl,rfl,rfl⟩:=h0;refine⟨?_,?_,?_⟩
    ·exact qsZ
    ·rfl
    rintro i rfl
    refine zgZ ?_
    refine ab.pure h101 rfl ?_
    exact qsZ
 ·rw[decide_eq_false hk] at h101
  rw[if_neg hk]
  obtain⟨R,hR⟩:∃ R,R=trR s:=⟨_,rfl⟩
  rw[<- hR]
  refine ak.intro Q58.2 (by simp[Q58]) ?_
  simp(disch:=try exact dI) only[Q58,push_cast,seval]
  refine am ([]) (fun i:Nat=>[]) (fun _=>[]) (fun i=>i=0) (fun i=>1 - i) (0) ?_;intro e0 σ0 n0 h0;simp(disch:=try exact dI) only[push_cast,seval] at h0;obtain⟨rfl,rfl,rfl⟩:=h0;refine⟨?_,?_,?_⟩
  ·exact qsZ
  ·rfl
  rintro i rfl
  refine zgZ ?_
  refine ab.pure h101 rfl ?_
  refine zgZ ?_
  refine am ([]) (fun x:List UInt8=>[(1,.pv (.str x))]) (fun _=>[]) (fun x=>trR x=R/\x.length<=s.length) (fun x=>x.length) (s) ?_;intro e0 σ0 n0 h0;simp(disch:=try exact dI) only[push_cast,seval] at h0;obtain⟨rfl,rfl,rfl⟩:=h0;refine⟨?_,?_,?_⟩
  ·exact qsZ
  ·exact⟨hR.symm,Nat.le_refl _⟩
  rintro x ⟨hx,hl⟩
  rcases Bq x with rfl | ⟨c,q,r,h1,h2,h3,h4,h5⟩
  ·rw[qF] at hx
   subst hx
   refine zgZ ?_
   refine ab.pure h101 rfl ?_
   exact qsZ
  ·rw[h4] at hx
   have h0:(0:Int)<(q:Int)+1:=by omega
   by_cases hc:c=32
   ·rw[if_pos hc] at hx
    subst hc
    refine zgZ ?_
    refine ab.pure h101 rfl ?_
    simp(disch:=try exact dI) only[h1,h0,h2,h3,Int.add_sub_cancel,push_cast,seval]
    exact⟨r,aI qsZ,⟨hx,by omega⟩,by omega⟩
   ·rw[if_neg hc] at hx
    subst hx
    have:=c32 hc
    refine zgZ ?_
    refine ab.pure h101 rfl ?_
    simp(disch:=try exact dI) only[h1,h0,h2,this,Int.add_sub_cancel,push_cast,seval]
theorem Lh (s:List UInt8)(hs:s.length<=1000000):ak Tryz.prog ap 56 [.str s] (.bool (decide (trR s=[]))):=by
 have h:=lV 4 s hs
 rw[cm,if_neg (by decide)] at h
 generalize trR s=R at *
 refine ak.intro Q56.2 (by simp[Q56]) ?_
 simp(disch:=try exact dI) only[Q56,push_cast,seval]
 refine ab.pure h rfl ?_
 exact qsZ
def rdS:Bool->Nat->Nat->List UInt8->Nat×Nat
 | _,v,c,[]=>(v,c)
 | p,v,c,b::r=>if isD b=true then rdS (p||decide (b=46)) (10*v+(b.toNat - 48)) (if (p||decide (b=46))=true then c+1 else c) r else rdS (p||decide (b=46)) v c r
def sgI (s:List UInt8)(v:Nat):Int:=if s.head? = some 45 then -(v:Int) else v
def aZ (s:List UInt8):(Int×Nat)×Int:=
 if s=[] then ((0,0),4) else if 17<s.length then ((0,0),5) else
  if IsN (sgI s (rdS false 0 0 s).1) (rdS false 0 0 s).2/\ew (sgI s (rdS false 0 0 s).1) (rdS false 0 0 s).2=s then ((sgI s (rdS false 0 0 s).1,(rdS false 0 0 s).2),0) else ((0,0),13)
theorem mJ {n:Int}{sc:Nat}(h:IsN n sc):(ew n sc).length<=17:=by
 obtain⟨h1,h2,h3⟩:=h
 have hdl:=lc (a:=n.natAbs) (by simp;omega)
 have:=sG n.natAbs sc (max (dl n.natAbs) (sc+1))
 rw[un]
 split<;>simp<;>omega
theorem JT (s:List UInt8):ak Tryz.prog ap 114 [.str s] (.tup [.agg [.int .i64 (aZ s).1.1,.int .i64 ((aZ s).1.2:Int)],.int .i64 (aZ s).2]):=by
 unfold aZ
 by_cases h0:s=[]
 ·subst h0
  rw[if_pos rfl]
  refine ak.intro HB.2 (by simp[HB]) ?_
  simp(disch:=try exact dI) only[HB,push_cast,seval]
 rw[if_neg h0]
 have h0b:decide (s=[])=false:=decide_eq_false h0
 by_cases hl:17<s.length
 ·rw[if_pos hl]
  have hlI:(17:Int)<(s.length:Int):=by omega
  refine ak.intro HB.2 (by simp[HB]) ?_
  simp(disch:=try exact dI) only[HB,h0b,push_cast,seval]
 rw[if_neg hl]
 have hlI:¬ (17:Int)<(s.length:Int):=by omega
 obtain⟨R,hR⟩:∃ R,R=rdS false 0 0 s:=⟨_,rfl⟩
 rw[<- hR]
 refine ak.intro HB.2 (by simp[HB]) ?_
 simp(disch:=try exact dI) only[HB,h0b,push_cast,seval]
 refine am ([]) (fun y:Nat×Bool×Nat×Nat=>[(5,.pv (.bool y.2.1)),(6,.pv (.int .i64 (y.1:Int)))]) (fun y=>[(1,.cells 126 true [.pv (.int .i64 (y.2.2.1:Int)),.pv (.int .i64 (y.2.2.2:Int))])]) (fun y=>y.1<=s.length/\R=rdS y.2.1 y.2.2.1 y.2.2.2 (s.drop y.1)/\y.2.2.1+1<=10 ^ y.1/\y.2.2.2<=y.1) (fun y=>s.length - y.1) ((0,false,0,0)) ?_;intro e0 σ0 n0 h0;simp(disch:=try exact dI) only[push_cast,seval] at h0;obtain⟨rfl,rfl,rfl⟩:=h0;refine⟨?_,?_,?_⟩
 ·exact qsZ
 ·exact⟨by simp,by simp[hR],by simp,by simp⟩
 rintro⟨i,p,v,c⟩ ⟨h1,h2,h3,h4⟩
 simp only at h1 h2 h3 h4
 have hpw:10 ^ i<=10 ^ 17:=Nat.pow_le_pow_right (by omega) (by omega)
 by_cases hlt:i<s.length
 ·obtain⟨b,hb⟩:∃ b,s[i]? = some b:=⟨_,List.getElem?_eq_getElem hlt⟩
  rw[a8 hb,rdS] at h2
  have hp1:10 ^ (i+1)=10*10 ^ i:=by rw[Nat.pow_succ];omega
  by_cases h46:b=46
  ·subst h46
   rw[if_neg (by decide)] at h2
   have hn:¬ (48:Int)<=((46:UInt8).toNat:Int):=by decide
   simp(disch:=try exact dI) only[hb,aq,push_cast,seval]
   exact⟨(i+1,true,v,c),aI qsZ,⟨by simp only;omega,by simpa using h2,by simp only;omega,by simp only;omega⟩,by simp only;omega⟩
  ·have e46:(p||decide (b=46))=p:=by simp[h46]
   have n46:¬ (b.toNat:Int)=46:=fun h=>h46 (UInt8.toNat_inj.1 (by simpa using (by omega:b.toNat=46)))
   rw[e46] at h2
   by_cases hD:isD b=true
   ·rw[if_pos hD] at h2
    have hbd:=cB hD
    have g1:(48:Int)<=(b.toNat:Int):=by omega
    have g2:(b.toNat:Int)<=57:=by omega
    have hv:((b.toNat - 48:Nat):Int)=(b.toNat:Int) - 48:=by omega
    have hw:IntKind.i64.wrap ((b.toNat:Int) - 48)=(b.toNat:Int) - 48:=gr (by omega) (by omega)
    cases p with
    | true=>
      rw[if_pos rfl] at h2
      simp(disch:=try exact dI) only[hb,aq,hw,push_cast,seval]
      exact⟨(i+1,true,10*v+(b.toNat - 48),c+1),aI (by simp(disch:=try exact dI) only[hv,push_cast,seval]),⟨by simp only;omega,h2,by simp only;omega,by simp only;omega⟩,by simp only;omega⟩
    | false=>
      rw[if_neg (by simp)] at h2
      simp(disch:=try exact dI) only[hb,aq,hw,push_cast,seval]
      exact⟨(i+1,false,10*v+(b.toNat - 48),c),aI (by simp(disch:=try exact dI) only[hv,push_cast,seval]),⟨by simp only;omega,h2,by simp only;omega,by simp only;omega⟩,by simp only;omega⟩
   ·rw[if_neg hD] at h2
    by_cases g1:(48:Int)<=(b.toNat:Int)
    ·have g2:¬ (b.toNat:Int)<=57:=fun h=>hD (by simp[isD];omega)
     simp(disch:=try exact dI) only[hb,aq,push_cast,seval]
     exact⟨(i+1,p,v,c),aI qsZ,⟨by simp only;omega,h2,by simp only;omega,by simp only;omega⟩,by simp only;omega⟩
    ·simp(disch:=try exact dI) only[hb,aq,push_cast,seval]
     exact⟨(i+1,p,v,c),aI qsZ,⟨by simp only;omega,h2,by simp only;omega,by simp only;omega⟩,by simp only;omega⟩
 ·have hi:i=s.length:=by omega
  rw[List.drop_eq_nil_of_le (by omega)] at h2
  simp only[rdS] at h2
  subst h2
  simp only
  have hp:=Int.ofNat_le.2 hpw
  obtain⟨b,hb⟩:∃ b,s[0]? = some b:=⟨_,List.getElem?_eq_getElem (by cases s;exact absurd rfl h0;simp)⟩
  have hh:s.head? = some b:=by rw[List.head?_eq_getElem?,hb]
  have hv18:v<1000000000000000000:=by omega
  clear h1 h3 hpw hp
  unfold sgI
  rw[hh]
  have fin:∀ n:Int,True:=fun _=>trivial
  by_cases h45:b=45
  ·subst h45
   rw[if_pos rfl]
   have his:=NO (-(v:Int)) c
   have ez:(0:Int) - (v:Int) = -(v:Int):=by omega
   generalize -(v:Int)=n at *
   by_cases hn:IsN n c
   ·have ht:=qI hn
    have htl:=mJ hn
    rw[decide_eq_true hn] at his
    generalize ew n c=T at *
    by_cases hT:T=s
    ·rw[if_pos ⟨hn,hT⟩]
     subst hT
     simp(disch:=try exact dI) only[hb,aq,ez,push_cast,seval]
     refine ab.pure his rfl ?_
     refine zgZ ?_
     refine ab.pure ht rfl ?_
     exact qsZ
    ·rw[if_neg (fun h=>hT h.2)]
     have hTb:(!decide (T=s))=true:=by simp[hT]
     simp(disch:=try exact dI) only[hb,aq,ez,push_cast,seval]
     refine ab.pure his rfl ?_
     refine zgZ ?_
     refine ab.pure ht rfl ?_
     simp(disch:=try exact dI) only[hTb,push_cast,seval]
   ·rw[if_neg (fun h=>hn h.1)]
    rw[decide_eq_false hn] at his
    simp(disch:=try exact dI) only[hb,aq,ez,push_cast,seval]
    refine ab.pure his rfl ?_
    exact qsZ
  ·rw[if_neg (show ¬ some b=some 45 by simp[h45])]
   have n45:¬ (b.toNat:Int)=45:=fun h=>h45 (UInt8.toNat_inj.1 (by simpa using (by omega:b.toNat=45)))
   have his:=NO (v:Int) c
   generalize (v:Int)=n at *
   by_cases hn:IsN n c
   ·have ht:=qI hn
    have htl:=mJ hn
    rw[decide_eq_true hn] at his
    generalize ew n c=T at *
    by_cases hT:T=s
    ·rw[if_pos ⟨hn,hT⟩]
     subst hT
     simp(disch:=try exact dI) only[hb,aq,push_cast,seval]
     refine ab.pure his rfl ?_
     refine zgZ ?_
     refine ab.pure ht rfl ?_
     exact qsZ
    ·rw[if_neg (fun h=>hT h.2)]
     have hTb:(!decide (T=s))=true:=by simp[hT]
     simp(disch:=try exact dI) only[hb,aq,push_cast,seval]
     refine ab.pure his rfl ?_
     refine zgZ ?_
     refine ab.pure ht rfl ?_
     simp(disch:=try exact dI) only[hTb,push_cast,seval]
   ·rw[if_neg (fun h=>hn h.1)]
    rw[decide_eq_false hn] at his
    simp(disch:=try exact dI) only[hb,aq,push_cast,seval]
    refine ab.pure his rfl ?_
    exact qsZ
end Go.Proofs.YtbojpfpliibfbaaGreatDoor
