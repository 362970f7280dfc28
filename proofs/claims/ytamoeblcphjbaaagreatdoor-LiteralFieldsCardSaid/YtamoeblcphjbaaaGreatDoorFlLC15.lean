/- A part of the proof for LiteralFieldsCardSaid. -/
import Derived.Test.YtamoeblcphjbaaaGreatDoorFlLC3
import Derived.Test.YtamoeblcphjbaaaGreatDoorFlF
import Derived.Test.YtamoeblcphjbaaaGreatDoorFlCore6
set_option maxRecDepth 100000
set_option linter.unusedVariables false
set_option linter.unusedSimpArgs false
-- many steps
namespace Go.Proofs.YtamoeblcphjbaaaGreatDoor
open Go Go.Ab
attribute [local irreducible] vc
def cz (y:Int)(m:Nat)(d:Int):List UInt8:=aX 4 y.toNat++[45]++aX 2 m++[45]++aX 2 d.toNat
theorem yg (y:Int)(m:Nat)(d:Int):(cz y m d).length=10:=by simp[cz,aV]
theorem Hl {y:Int}{m:Nat}{d:Int}(h:DateOk y m d):aq Tryz.prog aF 43 [.int .i64 (iF y m d - 719162)] (.tup [.str (cz y m d),.int .i64 0]):=by
 have hc:=KP h
 have hy1:=h.y1
 have hy2:=h.y2
 have hm1:=h.m1
 have hm2:=h.m2
 have hd1:=h.d1
 have hd2:=h.d2
 have hmd:=d6 y m
 have p1:=eA (n:=y) (k:=3) (by omega) (by omega) (by simp;omega)
 have p2:=eA (n:=(m:Int)) (k:=1) (by omega) (by omega) (by simp;omega)
 have p3:=eA (n:=d) (k:=1) (by omega) (by omega) (by simp;omega)
 simp only[Nat.reduceAdd,Int.toNat_natCast] at p1 p2 p3
 have l1:=aV 4 y.toNat
 have l2:=aV 2 m
 have l3:=aV 2 d.toNat
 unfold cz
 generalize aX 4 y.toNat=t1 at *
 generalize aX 2 m=t2 at *
 generalize aX 2 d.toNat=t3 at *
 generalize iF y m d - 719162=n at *
 refine aq.intro Pn (by simp[F43]) ?_
 simp(disch:=try exact dI) only[F43,push_cast,seval]
 refine ab.pure hc rfl ?_
 simp(disch:=try exact dI) only[push_cast,seval]
 refine ab.pure p1 rfl ?_
 simp(disch:=try exact dI) only[push_cast,seval]
 refine ab.pure p2 rfl ?_
 simp(disch:=try exact dI) only[push_cast,seval]
 refine ab.pure p3 rfl ?_
 simp(disch:=try exact dI) only[push_cast,seval]
theorem IK {d r:Int}(h1:-719162≤d∧d≤2932896)(h2:0≤r∧r≤86399999):aq Tryz.prog aF 91 [.int .i64 (d*86400000+r)] (.tup [.int .i64 d,.int .i64 r,.int .i64 0]):=by
 have hin:=dN (n:=d*86400000+r) (lo:=-62135596800000) (hi:=253402300799999) ⟨by omega,by omega⟩
 obtain⟨n,hn⟩:∃ n,n=d*86400000+r:=⟨_,rfl⟩
 have e1:=gl (a:=n - -62135596800000) (b:=86400000) (by omega)
 have e2:=iP (a:=n - -62135596800000) (b:=86400000) (by omega)
 have e3:-719162+(n - -62135596800000) / 86400000=d:=by omega
 have e4:(n - -62135596800000) % 86400000=r:=by omega
 rw[← hn] at hin ⊢
 refine aq.intro OX (by simp[F91]) ?_
 simp(disch:=try exact dI) only[F91,push_cast,seval]
 refine ab.pure hin rfl ?_
 simp(disch:=try exact dI) only[e1,e2,e3,e4,push_cast,seval]
def fF (t:List UInt8)(h mi s ms:Nat):List UInt8:=t++([84]++aX 2 h++[58]++aX 2 mi++[58]++aX 2 s)++(if ms=0 then [] else [46]++aX 3 ms)++[90]
theorem u9 {y:Int}{m:Nat}{d:Int}(hD:DateOk y m d){h mi s ms:Nat}(h1:h≤23)(h2:mi≤59)(h3:s≤59)(h4:ms≤999) :
  aq Tryz.prog aF 44 [.int .i64 ((iF y m d - 719162)*86400000+((((60*(h:Int)+mi)*60+s)*1000+ms)))] (.tup [.str (fF (cz y m d) h mi s ms),.int .i64 0]):=by
 have hr:=fk hD
 have hs:=IK (d:=iF y m d - 719162) (r:=((60*(h:Int)+mi)*60+s)*1000+ms) ⟨by omega,by omega⟩ ⟨by omega,by omega⟩
 have ht:=Hl hD
 have htl:=yg y m d
 have p1:=eA (n:=(h:Int)) (k:=1) (by omega) (by omega) (by simp;omega)
 have p2:=eA (n:=(mi:Int)) (k:=1) (by omega) (by omega) (by simp;omega)
 have p3:=eA (n:=(s:Int)) (k:=1) (by omega) (by omega) (by simp;omega)
 have p4:=eA (n:=(ms:Int)) (k:=2) (by omega) (by omega) (by simp;omega)
 simp only[Nat.reduceAdd,Int.toNat_natCast] at p1 p2 p3 p4
 have l1:=aV 2 h
 have l2:=aV 2 mi
 have l3:=aV 2 s
 have l4:=aV 3 ms
 obtain⟨r,hr⟩:∃ r,r=((60*(h:Int)+mi)*60+s)*1000+ms:=⟨_,rfl⟩
 rw[← hr] at hs ⊢
 have q1:=gl (a:=r) (b:=1000) (by omega)
 have q2:=gl (a:=r / 1000) (b:=3600) (by omega)
 have q3:=gl (a:=r / 1000) (b:=60) (by omega)
 have q4:=iP (a:=r / 1000 / 60) (b:=60) (by omega)
 have q5:=iP (a:=r / 1000) (b:=60) (by omega)
 have q6:=iP (a:=r) (b:=1000) (by omega)
 have g2:r / 1000 / 3600=h:=by omega
 have g3:r / 1000 / 60 % 60=mi:=by omega
 have g4:r / 1000 % 60=s:=by omega
 have g5:r % 1000=ms:=by omega
 have hrb:0≤r∧r≤86399999:=⟨by omega,by omega⟩
 clear hr
 unfold fF
 generalize cz y m d=t0 at *
 generalize aX 2 h=t1 at *
 generalize aX 2 mi=t2 at *
 generalize aX 2 s=t3 at *
 generalize aX 3 ms=t4 at *
 generalize iF y m d - 719162=n at *
 generalize n*86400000+r=N at *
 by_cases hm:ms=0
 ·rw[if_pos hm,List.append_nil]
  subst hm
  refine aq.intro Ih (by simp[F44]) ?_
  simp(disch:=try exact dI) only[F44,push_cast,seval]
  refine ab.pure hs rfl ?_
  simp(disch:=try exact dI) only[push_cast,seval]
  refine ab.pure ht rfl ?_
  simp(disch:=try exact dI) only[q1,q2,g2,push_cast,seval]
  refine ab.pure p1 rfl ?_
  simp(disch:=try exact dI) only[q3,q4,g3,push_cast,seval]
  refine ab.pure p2 rfl ?_
  simp(disch:=try exact dI) only[q5,g4,push_cast,seval]
  refine ab.pure p3 rfl ?_
  simp(disch:=try exact dI) only[q6,g5,push_cast,seval]
 ·rw[if_neg hm]
  refine aq.intro Ih (by simp[F44]) ?_
  simp(disch:=try exact dI) only[F44,push_cast,seval]
  refine ab.pure hs rfl ?_
  simp(disch:=try exact dI) only[push_cast,seval]
  refine ab.pure ht rfl ?_
  simp(disch:=try exact dI) only[q1,q2,g2,push_cast,seval]
  refine ab.pure p1 rfl ?_
  simp(disch:=try exact dI) only[q3,q4,g3,push_cast,seval]
  refine ab.pure p2 rfl ?_
  simp(disch:=try exact dI) only[q5,g4,push_cast,seval]
  refine ab.pure p3 rfl ?_
  have hm':¬ (ms:Int)=0:=by omega
  simp(disch:=try exact dI) only[q6,g5,push_cast,seval]
  refine ab.pure p4 rfl ?_
  simp(disch:=try exact dI) only[push_cast,seval]
end Go.Proofs.YtamoeblcphjbaaaGreatDoor
-- many steps
namespace Go.Proofs.YtamoeblcphjbaaaGreatDoor
open Go Go.Ab
attribute [local irreducible] vc
def IsN (n:Int)(sc:Nat):Prop:=-999999999999999≤n∧n≤999999999999999∧sc≤12
instance (n:Int) (sc:Nat):Decidable (IsN n sc):=by unfold IsN;infer_instance
def dl (a:Nat):Nat:=(bl 20 a).length
theorem H1:∀ (f a:Nat),a<10 ^ f→0<f→1≤(bl f a).length∧a<10 ^ (bl f a).length
 | 0,a,_,h=>absurd h (by omega)
 | f+1,a,hf,_=>by
   rw[bl]
   by_cases h:a<10
   ·rw[if_pos h];simp;omega
   ·rw[if_neg h]
    have hf':a / 10<10 ^ f:=by rw[Nat.pow_succ] at hf;exact Nat.div_lt_of_lt_mul (by rw[Nat.mul_comm];exact hf)
    have h0:0<f:=by
     cases f with
     | zero=>simp at hf;omega
     | succ f=>omega
    have ih:=H1 f (a / 10) hf' h0
    rw[List.length_append,List.length_cons,List.length_nil,Nat.pow_succ]
    omega
theorem eK {a:Nat}(h:a<10 ^ 15):1≤dl a∧dl a≤15∧a<10 ^ dl a:=by
 have h20:a<10 ^ 20:=Nat.lt_of_lt_of_le h (Nat.pow_le_pow_right (by omega) (by omega))
 have h1:=H1 20 a h20 (by omega)
 have h2:=congrArg List.length (eL 14 20 a h20 h (by omega))
 rw[List.length_append,List.length_replicate,aV] at h2
 unfold dl
 exact⟨h1.1,by omega,h1.2⟩
theorem pG {a K:Nat}(h:a<10 ^ 15)(hK:dl a≤K):List.replicate (K - dl a) 48++bl 20 a=aX K a:=by
 have h20:a<10 ^ 20:=Nat.lt_of_lt_of_le h (Nat.pow_le_pow_right (by omega) (by omega))
 have hs:=eK h
 obtain⟨k,rfl⟩:∃ k,K=k+1:=⟨K - 1,by omega⟩
 exact eL k 20 a h20 (Nat.lt_of_lt_of_le hs.2.2 (Nat.pow_le_pow_right (by omega) hK)) (by omega)
theorem fy (i:Nat):∀ (j a:Nat),aX (i+j) a=aX i (a / 10 ^ j)++aX j a
 | 0,a=>by simp[aX]
 | j+1,a=>by
   rw[← Nat.add_assoc,aX,fy i j (a / 10),aX,List.append_assoc,Nat.div_div_eq_div_mul,Nat.pow_succ,Nat.mul_comm 10]
def cS (n:Int)(sc:Nat):List UInt8:=
 (if n<0 then [45] else [])++(aX (max (dl n.natAbs) (sc+1) - sc) (n.natAbs / 10 ^ sc)++(if sc=0 then [] else 46::aX sc n.natAbs))
theorem OL {n:Int}(h:-9223372036854775808<n)(h2:n≤9223372036854775807):aq Tryz.prog aF 87 [.int .i64 n] (.int .i64 (n.natAbs:Int)):=by
 have e:max n (0 - n)=(n.natAbs:Int):=by omega
 refine aq.intro O0 (by simp[F87]) ?_
 simp(disch:=try exact dI) only[F87,e,push_cast,seval]
theorem Cy {n:Int}(h:-9223372036854775808<n)(h2:n≤9223372036854775807)(sc:Nat):aq Tryz.prog aF 86 [.agg [.int .i64 n,.int .i64 (sc:Int)]] (.int .i64 (if IsN n sc then 0 else 2)):=by
 have ha:=OL h h2
 by_cases h1:(999999999999999:Int)<(n.natAbs:Int)
 ·rw[if_neg (by unfold IsN;omega)]
  refine aq.intro Di (by simp[F86]) ?_
  simp(disch:=try exact dI) only[F86,push_cast,seval]
  refine ab.pure ha rfl ?_
  simp(disch:=try exact dI) only[push_cast,seval]
 have h2:¬ n < -999999999999999:=by omega
 have h3:¬ (sc:Int)<0:=by omega
 by_cases h4:(12:Int)<(sc:Int)
 ·rw[if_neg (by unfold IsN;omega)]
  refine aq.intro Di (by simp[F86]) ?_
  simp(disch:=try exact dI) only[F86,push_cast,seval]
  refine ab.pure ha rfl ?_
  simp(disch:=try exact dI) only[push_cast,seval]
 ·rw[if_pos (by unfold IsN;omega)]
  refine aq.intro Di (by simp[F86]) ?_
  simp(disch:=try exact dI) only[F86,push_cast,seval]
  refine ab.pure ha rfl ?_
  simp(disch:=try exact dI) only[push_cast,seval]
theorem yh {n:Int}(h:-9223372036854775808<n)(h2:n≤9223372036854775807){sc:Nat}(hn:¬ IsN n sc):aq Tryz.prog aF 42 [.agg [.int .i64 n,.int .i64 (sc:Int)]] (.tup [.str [],.int .i64 2]):=by
 have hc:=Cy h h2 sc
 rw[if_neg hn] at hc
 refine aq.intro qk (by simp[F42]) ?_
 simp(disch:=try exact dI) only[F42,push_cast,seval]
 refine ab.pure hc rfl ?_
 simp(disch:=try exact dI) only[push_cast,seval]
theorem yj {n:Int}{sc:Nat}(hn:IsN n sc):aq Tryz.prog aF 42 [.agg [.int .i64 n,.int .i64 (sc:Int)]] (.tup [.str (cS n sc),.int .i64 0]):=by
 obtain⟨hn1,hn2,hn3⟩:=hn
 have hc:=Cy (n:=n) (by omega) (by omega) sc
 rw[if_pos ⟨hn1,hn2,hn3⟩] at hc
 have ha:=OL (n:=n) (by omega) (by omega)
 have hi:=na (n.natAbs:Int) (by omega) (by omega)
 have hlt:n.natAbs<10 ^ 15:=by simp;omega
 have hdl:=eK hlt
 have hL:=pG hlt (K:=max (dl n.natAbs) (sc+1)) (by omega)
 have hL2:=fy (max (dl n.natAbs) (sc+1) - sc) sc n.natAbs
 rw[show max (dl n.natAbs) (sc+1) - sc+sc=max (dl n.natAbs) (sc+1) by omega] at hL2
 have hr:=s9 (sc+1 - dl n.natAbs) (by omega)
 rw[show max (dl n.natAbs) (sc+1) - dl n.natAbs=sc+1 - dl n.natAbs by omega] at hL
 have e1:cR (n.natAbs:Int)=bl 20 n.natAbs:=by unfold cR;rw[if_neg (by omega),Int.toNat_natCast]
 rw[e1] at hi
 have l1:=aV (max (dl n.natAbs) (sc+1) - sc) (n.natAbs / 10 ^ sc)
 have l2:=aV sc n.natAbs
 have l0:(bl 20 n.natAbs).length=dl n.natAbs:=rfl
 have lZ:(List.replicate (sc+1 - dl n.natAbs) (48:UInt8)).length=sc+1 - dl n.natAbs:=by simp
 unfold cS
 rw[hL2] at hL
 have hm:max (0:Int) ((sc:Int)+1 - ((dl n.natAbs:Nat):Int))=((sc+1 - dl n.natAbs:Nat):Int):=by omega
 rw[← hm] at hr
 generalize aX (max (dl n.natAbs) (sc+1) - sc) (n.natAbs / 10 ^ sc)=A at *
 generalize aX sc n.natAbs=B at *
 generalize bl 20 n.natAbs=D at *
 generalize dl n.natAbs=k at *
 generalize List.replicate (sc+1 - k) (48:UInt8)=Z at *
 have lA:1≤A.length:=by omega
 clear hL2 e1 hlt
 by_cases hs:sc=0
 ·subst hs
  rw[if_pos rfl,List.append_nil]
  have hB:B=[]:=List.length_eq_zero_iff.1 l2
  have hDA:D=A:=by
   have hz:Z=[]:=by
    have:=congrArg List.length hL
    simp only[List.length_append] at this
    exact List.length_eq_zero_iff.1 (by omega)
   rw[hz,hB] at hL
   simpa using hL
  subst hDA
  by_cases hneg:n<0
  ·rw[if_pos hneg]
   refine aq.intro qk (by simp[F42]) ?_
   simp(disch:=try exact dI) only[F42,push_cast,seval]
   refine ab.pure hc rfl ?_
   simp(disch:=try exact dI) only[push_cast,seval]
   refine ab.pure ha rfl ?_
   simp(disch:=try exact dI) only[push_cast,seval]
   refine ab.pure hi rfl ?_
   simp(disch:=try exact dI) only[push_cast,seval]
  ·rw[if_neg hneg]
   refine aq.intro qk (by simp[F42]) ?_
   simp(disch:=try exact dI) only[F42,push_cast,seval]
   refine ab.pure hc rfl ?_
   simp(disch:=try exact dI) only[push_cast,seval]
   refine ab.pure ha rfl ?_
   simp(disch:=try exact dI) only[push_cast,seval]
   refine ab.pure hi rfl ?_
   simp(disch:=try exact dI) only[push_cast,seval]
 ·rw[if_neg hs]
  have hsI:(0:Int)<(sc:Int):=by omega
  have el:((A.length:Int)+(B.length:Int)) - (sc:Int)=(A.length:Int):=by omega
  have et:(((A++B).length:Int) - (sc:Int)).toNat=A.length:=by rw[List.length_append];omega
  have t1:(A++B).take A.length=A:=by simp
  have t2:(A++B).drop A.length=B:=by simp
  by_cases hneg:n<0
  ·rw[if_pos hneg]
   refine aq.intro qk (by simp[F42]) ?_
   simp(disch:=try exact dI) only[F42,push_cast,seval]
   refine ab.pure hc rfl ?_
   simp(disch:=try exact dI) only[push_cast,seval]
   refine ab.pure ha rfl ?_
   simp(disch:=try exact dI) only[push_cast,seval]
   refine ab.pure hi rfl ?_
   simp(disch:=try exact dI) only[l0,push_cast,seval]
   refine ab.pure hr rfl ?_
   simp(disch:=try exact dI) only[hL,el,t1,t2,push_cast,seval]
   rw[et,List.take_length,t1,t2]
  ·rw[if_neg hneg]
   refine aq.intro qk (by simp[F42]) ?_
   simp(disch:=try exact dI) only[F42,push_cast,seval]
   refine ab.pure hc rfl ?_
   simp(disch:=try exact dI) only[push_cast,seval]
   refine ab.pure ha rfl ?_
   simp(disch:=try exact dI) only[push_cast,seval]
   refine ab.pure hi rfl ?_
   simp(disch:=try exact dI) only[l0,push_cast,seval]
   refine ab.pure hr rfl ?_
   simp(disch:=try exact dI) only[hL,el,t1,t2,push_cast,seval]
   rw[et,List.take_length,t1,t2]
end Go.Proofs.YtamoeblcphjbaaaGreatDoor
-- many steps
namespace Go.Proofs.YtamoeblcphjbaaaGreatDoor
open Go Go.Ab
attribute [local irreducible] vc
def MB (a sc i:Nat):List UInt8:=if i≤sc then aX i a else aX (i - sc) (a / 10 ^ sc)++(if sc=0 then [] else 46::aX sc a)
theorem AF (i a:Nat):aX (i+1) a=UInt8.ofNat (48+a / 10 ^ i % 10)::aX i a:=by
 rw[Nat.add_comm,fy 1 i a]
 simp[aX]
theorem GI (n:Int)(sc:Nat):cS n sc=(if n<0 then [45] else [])++MB n.natAbs sc (max (dl n.natAbs) (sc+1)):=by
 have e:MB n.natAbs sc (max (dl n.natAbs) (sc+1))=aX (max (dl n.natAbs) (sc+1) - sc) (n.natAbs / 10 ^ sc)++(if sc=0 then [] else 46::aX sc n.natAbs):=by
  unfold MB
  rw[if_neg (show ¬ max (dl n.natAbs) (sc+1)≤sc by omega)]
 rw[e]
 rfl
theorem DN (a sc i:Nat):(MB a sc i).length≤i+1:=by
 unfold MB
 split
 ·rw[aV];omega
 ·split
  ·simp[aV];omega
  ·simp[aV];omega
def rdS:Bool→Nat→Nat→List UInt8→Nat×Nat
 | _,v,c,[]=>(v,c)
 | p,v,c,b::r=>if isD b=true then rdS (p||decide (b=46)) (10*v+(b.toNat - 48)) (if (p||decide (b=46))=true then c+1 else c) r else rdS (p||decide (b=46)) v c r
def sgI (s:List UInt8)(v:Nat):Int:=if s.head? = some 45 then -(v:Int) else v
def be (s:List UInt8):(Int×Nat)×Int:=
 if s=[] then ((0,0),4) else if 17<s.length then ((0,0),5) else
  if IsN (sgI s (rdS false 0 0 s).1) (rdS false 0 0 s).2∧cS (sgI s (rdS false 0 0 s).1) (rdS false 0 0 s).2=s then ((sgI s (rdS false 0 0 s).1,(rdS false 0 0 s).2),0) else ((0,0),13)
theorem wU {n:Int}{sc:Nat}(h:IsN n sc):(cS n sc).length≤17:=by
 obtain⟨h1,h2,h3⟩:=h
 have hdl:=eK (a:=n.natAbs) (by simp;omega)
 have:=DN n.natAbs sc (max (dl n.natAbs) (sc+1))
 rw[GI]
 split<;>simp<;>omega
theorem tT (s:List UInt8)(c:Int):aq Tryz.prog aF 206 [.str s,.int .u8 c] (.int .i64 (eU c.toNat.toUInt8 s 0)):=by
 generalize hq:eU c.toNat.toUInt8 s 0=q
 refine aq.intro Ll (by simp[RW]) ?_
 simp(disch:=try exact dI) only[RW,nR,oC,hq,push_cast,seval]
theorem jw (s:List UInt8)(c:UInt8):aq Tryz.prog aF 159 [.str s,.int .u8 (c.toNat:Int)] (.int .i64 (eU c s 0)):=by
 have h22:=tT s (c.toNat:Int)
 rw[show ((c.toNat:Int)).toNat.toUInt8=c by simp] at h22
 generalize eU c s 0=q at *
 refine aq.intro LJ (by simp[Sb]) ?_
 simp(disch:=try exact dI) only[Sb,push_cast,seval]
 refine ab.pure h22 rfl ?_
 simp(disch:=try exact dI) only[push_cast,seval]
end Go.Proofs.YtamoeblcphjbaaaGreatDoor
