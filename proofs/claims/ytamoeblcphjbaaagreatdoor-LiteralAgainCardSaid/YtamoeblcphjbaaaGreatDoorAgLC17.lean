/- A part of the proof for LiteralAgainCardSaid. -/
import Derived.Test.YtamoeblcphjbaaaGreatDoorAgLC4
import Derived.Test.YtamoeblcphjbaaaGreatDoorAgF
import Derived.Test.YtamoeblcphjbaaaGreatDoorAgCore6
set_option maxRecDepth 100000
set_option linter.unusedVariables false
set_option linter.unusedSimpArgs false
-- many steps
namespace Go.Proofs.YtamoeblcphjbaaaGreatDoor
open Go Go.Ab
attribute [local irreducible] vc
def IsN (n:Int)(sc:Nat):Prop:=-999999999999999≤n∧n≤999999999999999∧sc≤12
instance (n:Int) (sc:Nat):Decidable (IsN n sc):=by unfold IsN;infer_instance
def dl (a:Nat):Nat:=(bl 20 a).length
theorem Hm:∀ (f a:Nat),a<10 ^ f→0<f→1≤(bl f a).length∧a<10 ^ (bl f a).length
 | 0,a,_,h=>absurd h (by omega)
 | f+1,a,hf,_=>by
   rw[bl]
   by_cases h:a<10
   ·rw[if_pos h];simp;omega
   ·rw[if_neg h]
    have hf':a / 10<10 ^ f:=by rw[Nat.pow_succ] at hf;exact Nat.div_lt_of_lt_mul (by rw[Nat.mul_comm];exact hf)
    have h0:0<f:=by
     cases f with
     | zero=>simp at hf;omega
     | succ f=>omega
    have ih:=Hm f (a / 10) hf' h0
    rw[List.length_append,List.length_cons,List.length_nil,Nat.pow_succ]
    omega
theorem eN {a:Nat}(h:a<10 ^ 15):1≤dl a∧dl a≤15∧a<10 ^ dl a:=by
 have h20:a<10 ^ 20:=Nat.lt_of_lt_of_le h (Nat.pow_le_pow_right (by omega) (by omega))
 have h1:=Hm 20 a h20 (by omega)
 have h2:=congrArg List.length (eO 14 20 a h20 h (by omega))
 rw[List.length_append,List.length_replicate,aV] at h2
 unfold dl
 exact⟨h1.1,by omega,h1.2⟩
theorem pA {a K:Nat}(h:a<10 ^ 15)(hK:dl a≤K):List.replicate (K - dl a) 48++bl 20 a=aY K a:=by
 have h20:a<10 ^ 20:=Nat.lt_of_lt_of_le h (Nat.pow_le_pow_right (by omega) (by omega))
 have hs:=eN h
 obtain⟨k,rfl⟩:∃ k,K=k+1:=⟨K - 1,by omega⟩
 exact eO k 20 a h20 (Nat.lt_of_lt_of_le hs.2.2 (Nat.pow_le_pow_right (by omega) hK)) (by omega)
theorem fC (i:Nat):∀ (j a:Nat),aY (i+j) a=aY i (a / 10 ^ j)++aY j a
 | 0,a=>by simp[aY]
 | j+1,a=>by
   rw[← Nat.add_assoc,aY,fC i j (a / 10),aY,List.append_assoc,Nat.div_div_eq_div_mul,Nat.pow_succ,Nat.mul_comm 10]
def c8 (n:Int)(sc:Nat):List UInt8:=
 (if n<0 then [45] else [])++(aY (max (dl n.natAbs) (sc+1) - sc) (n.natAbs / 10 ^ sc)++(if sc=0 then [] else 46::aY sc n.natAbs))
theorem NS {n:Int}(h:-9223372036854775808<n)(h2:n≤9223372036854775807):aq Tryz.prog aF 87 [.int .i64 n] (.int .i64 (n.natAbs:Int)):=by
 have e:max n (0 - n)=(n.natAbs:Int):=by omega
 refine aq.intro N7 (by simp[F87]) ?_
 simp(disch:=try exact dI) only[F87,e,push_cast,seval]
theorem BZ {n:Int}(h:-9223372036854775808<n)(h2:n≤9223372036854775807)(sc:Nat):aq Tryz.prog aF 86 [.agg [.int .i64 n,.int .i64 (sc:Int)]] (.int .i64 (if IsN n sc then 0 else 2)):=by
 have ha:=NS h h2
 by_cases h1:(999999999999999:Int)<(n.natAbs:Int)
 ·rw[if_neg (by unfold IsN;omega)]
  refine aq.intro CD (by simp[F86]) ?_
  simp(disch:=try exact dI) only[F86,push_cast,seval]
  refine ab.pure ha rfl ?_
  simp(disch:=try exact dI) only[push_cast,seval]
 have h2:¬ n < -999999999999999:=by omega
 have h3:¬ (sc:Int)<0:=by omega
 by_cases h4:(12:Int)<(sc:Int)
 ·rw[if_neg (by unfold IsN;omega)]
  refine aq.intro CD (by simp[F86]) ?_
  simp(disch:=try exact dI) only[F86,push_cast,seval]
  refine ab.pure ha rfl ?_
  simp(disch:=try exact dI) only[push_cast,seval]
 ·rw[if_pos (by unfold IsN;omega)]
  refine aq.intro CD (by simp[F86]) ?_
  simp(disch:=try exact dI) only[F86,push_cast,seval]
  refine ab.pure ha rfl ?_
  simp(disch:=try exact dI) only[push_cast,seval]
theorem xU {n:Int}(h:-9223372036854775808<n)(h2:n≤9223372036854775807){sc:Nat}(hn:¬ IsN n sc):aq Tryz.prog aF 42 [.agg [.int .i64 n,.int .i64 (sc:Int)]] (.tup [.str [],.int .i64 2]):=by
 have hc:=BZ h h2 sc
 rw[if_neg hn] at hc
 refine aq.intro p5 (by simp[F42]) ?_
 simp(disch:=try exact dI) only[F42,push_cast,seval]
 refine ab.pure hc rfl ?_
 simp(disch:=try exact dI) only[push_cast,seval]
theorem xV {n:Int}{sc:Nat}(hn:IsN n sc):aq Tryz.prog aF 42 [.agg [.int .i64 n,.int .i64 (sc:Int)]] (.tup [.str (c8 n sc),.int .i64 0]):=by
 obtain⟨hn1,hn2,hn3⟩:=hn
 have hc:=BZ (n:=n) (by omega) (by omega) sc
 rw[if_pos ⟨hn1,hn2,hn3⟩] at hc
 have ha:=NS (n:=n) (by omega) (by omega)
 have hi:=mZ (n.natAbs:Int) (by omega) (by omega)
 have hlt:n.natAbs<10 ^ 15:=by simp;omega
 have hdl:=eN hlt
 have hL:=pA hlt (K:=max (dl n.natAbs) (sc+1)) (by omega)
 have hL2:=fC (max (dl n.natAbs) (sc+1) - sc) sc n.natAbs
 rw[show max (dl n.natAbs) (sc+1) - sc+sc=max (dl n.natAbs) (sc+1) by omega] at hL2
 have hr:=sI (sc+1 - dl n.natAbs) (by omega)
 rw[show max (dl n.natAbs) (sc+1) - dl n.natAbs=sc+1 - dl n.natAbs by omega] at hL
 have e1:cS (n.natAbs:Int)=bl 20 n.natAbs:=by unfold cS;rw[if_neg (by omega),Int.toNat_natCast]
 rw[e1] at hi
 have l1:=aV (max (dl n.natAbs) (sc+1) - sc) (n.natAbs / 10 ^ sc)
 have l2:=aV sc n.natAbs
 have l0:(bl 20 n.natAbs).length=dl n.natAbs:=rfl
 have lZ:(List.replicate (sc+1 - dl n.natAbs) (48:UInt8)).length=sc+1 - dl n.natAbs:=by simp
 unfold c8
 rw[hL2] at hL
 have hm:max (0:Int) ((sc:Int)+1 - ((dl n.natAbs:Nat):Int))=((sc+1 - dl n.natAbs:Nat):Int):=by omega
 rw[← hm] at hr
 generalize aY (max (dl n.natAbs) (sc+1) - sc) (n.natAbs / 10 ^ sc)=A at *
 generalize aY sc n.natAbs=B at *
 generalize bl 20 n.natAbs=D at *
 generalize dl n.natAbs=k at *
 generalize List.replicate (sc+1 - k) (48:UInt8)=Z at *
 have lA:1≤A.length:=by omega
 clear hL2 e1 hlt
 by_cases hs:sc=0
 ·subst hs
  rw[if_pos rfl,List.append_nil]
  have hB:B=[]:=List.length_eq_zero_iff.1 l2
  have hDA:D=A:=by
   have hz:Z=[]:=by
    have:=congrArg List.length hL
    simp only[List.length_append] at this
    exact List.length_eq_zero_iff.1 (by omega)
   rw[hz,hB] at hL
   simpa using hL
  subst hDA
  by_cases hneg:n<0
  ·rw[if_pos hneg]
   refine aq.intro p5 (by simp[F42]) ?_
   simp(disch:=try exact dI) only[F42,push_cast,seval]
   refine ab.pure hc rfl ?_
   simp(disch:=try exact dI) only[push_cast,seval]
   refine ab.pure ha rfl ?_
   simp(disch:=try exact dI) only[push_cast,seval]
   refine ab.pure hi rfl ?_
   simp(disch:=try exact dI) only[push_cast,seval]
  ·rw[if_neg hneg]
   refine aq.intro p5 (by simp[F42]) ?_
   simp(disch:=try exact dI) only[F42,push_cast,seval]
   refine ab.pure hc rfl ?_
   simp(disch:=try exact dI) only[push_cast,seval]
   refine ab.pure ha rfl ?_
   simp(disch:=try exact dI) only[push_cast,seval]
   refine ab.pure hi rfl ?_
   simp(disch:=try exact dI) only[push_cast,seval]
 ·rw[if_neg hs]
  have hsI:(0:Int)<(sc:Int):=by omega
  have el:((A.length:Int)+(B.length:Int)) - (sc:Int)=(A.length:Int):=by omega
  have et:(((A++B).length:Int) - (sc:Int)).toNat=A.length:=by rw[List.length_append];omega
  have t1:(A++B).take A.length=A:=by simp
  have t2:(A++B).drop A.length=B:=by simp
  by_cases hneg:n<0
  ·rw[if_pos hneg]
   refine aq.intro p5 (by simp[F42]) ?_
   simp(disch:=try exact dI) only[F42,push_cast,seval]
   refine ab.pure hc rfl ?_
   simp(disch:=try exact dI) only[push_cast,seval]
   refine ab.pure ha rfl ?_
   simp(disch:=try exact dI) only[push_cast,seval]
   refine ab.pure hi rfl ?_
   simp(disch:=try exact dI) only[l0,push_cast,seval]
   refine ab.pure hr rfl ?_
   simp(disch:=try exact dI) only[hL,el,t1,t2,push_cast,seval]
   rw[et,List.take_length,t1,t2]
  ·rw[if_neg hneg]
   refine aq.intro p5 (by simp[F42]) ?_
   simp(disch:=try exact dI) only[F42,push_cast,seval]
   refine ab.pure hc rfl ?_
   simp(disch:=try exact dI) only[push_cast,seval]
   refine ab.pure ha rfl ?_
   simp(disch:=try exact dI) only[push_cast,seval]
   refine ab.pure hi rfl ?_
   simp(disch:=try exact dI) only[l0,push_cast,seval]
   refine ab.pure hr rfl ?_
   simp(disch:=try exact dI) only[hL,el,t1,t2,push_cast,seval]
   rw[et,List.take_length,t1,t2]
end Go.Proofs.YtamoeblcphjbaaaGreatDoor
-- many steps
namespace Go.Proofs.YtamoeblcphjbaaaGreatDoor
open Go Go.Ab
attribute [local irreducible] vc
def LQ (a sc i:Nat):List UInt8:=if i≤sc then aY i a else aY (i - sc) (a / 10 ^ sc)++(if sc=0 then [] else 46::aY sc a)
theorem z7 (i a:Nat):aY (i+1) a=UInt8.ofNat (48+a / 10 ^ i % 10)::aY i a:=by
 rw[Nat.add_comm,fC 1 i a]
 simp[aY]
theorem F2 (n:Int)(sc:Nat):c8 n sc=(if n<0 then [45] else [])++LQ n.natAbs sc (max (dl n.natAbs) (sc+1)):=by
 have e:LQ n.natAbs sc (max (dl n.natAbs) (sc+1))=aY (max (dl n.natAbs) (sc+1) - sc) (n.natAbs / 10 ^ sc)++(if sc=0 then [] else 46::aY sc n.natAbs):=by
  unfold LQ
  rw[if_neg (show ¬ max (dl n.natAbs) (sc+1)≤sc by omega)]
 rw[e]
 rfl
theorem Dc (a sc i:Nat):(LQ a sc i).length≤i+1:=by
 unfold LQ
 split
 ·rw[aV];omega
 ·split
  ·simp[aV];omega
  ·simp[aV];omega
def rdS:Bool→Nat→Nat→List UInt8→Nat×Nat
 | _,v,c,[]=>(v,c)
 | p,v,c,b::r=>if isD b=true then rdS (p||decide (b=46)) (10*v+(b.toNat - 48)) (if (p||decide (b=46))=true then c+1 else c) r else rdS (p||decide (b=46)) v c r
def sgI (s:List UInt8)(v:Nat):Int:=if s.head? = some 45 then -(v:Int) else v
def bg (s:List UInt8):(Int×Nat)×Int:=
 if s=[] then ((0,0),4) else if 17<s.length then ((0,0),5) else
  if IsN (sgI s (rdS false 0 0 s).1) (rdS false 0 0 s).2∧c8 (sgI s (rdS false 0 0 s).1) (rdS false 0 0 s).2=s then ((sgI s (rdS false 0 0 s).1,(rdS false 0 0 s).2),0) else ((0,0),13)
theorem mm {n:Int}{sc:Nat}(h:IsN n sc):(c8 n sc).length≤17:=by
 obtain⟨h1,h2,h3⟩:=h
 have hdl:=eN (a:=n.natAbs) (by simp;omega)
 have:=Dc n.natAbs sc (max (dl n.natAbs) (sc+1))
 rw[F2]
 split<;>simp<;>omega
theorem tw (s:List UInt8)(c:Int):aq Tryz.prog aF 206 [.str s,.int .u8 c] (.int .i64 (e9 c.toNat.toUInt8 s 0)):=by
 generalize hq:e9 c.toNat.toUInt8 s 0=q
 refine aq.intro KF (by simp[Q1]) ?_
 simp(disch:=try exact dI) only[Q1,nO,ov,hq,push_cast,seval]
theorem jF (s:List UInt8)(c:UInt8):aq Tryz.prog aF 159 [.str s,.int .u8 (c.toNat:Int)] (.int .i64 (e9 c s 0)):=by
 have h22:=tw s (c.toNat:Int)
 rw[show ((c.toNat:Int)).toNat.toUInt8=c by simp] at h22
 generalize e9 c s 0=q at *
 refine aq.intro K3 (by simp[Re]) ?_
 simp(disch:=try exact dI) only[Re,push_cast,seval]
 refine ab.pure h22 rfl ?_
 simp(disch:=try exact dI) only[push_cast,seval]
end Go.Proofs.YtamoeblcphjbaaaGreatDoor
