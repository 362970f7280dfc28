/- A part of the proof for LiteralQuotesCardSaid. -/
import Derived.Test.YtamoeblcphjbaaaGreatDoorQuLC3
import Derived.Test.YtamoeblcphjbaaaGreatDoorQuF
import Derived.Test.YtamoeblcphjbaaaGreatDoorCore6
set_option maxRecDepth 100000
set_option linter.unusedVariables false
set_option linter.unusedSimpArgs false
-- many steps
namespace Go.Proofs.YtamoeblcphjbaaaGreatDoor
open Go Go.Ab
attribute [local irreducible] vc
def IsN (n:Int)(sc:Nat):Prop:=-999999999999999≤n∧n≤999999999999999∧sc≤12
instance (n:Int) (sc:Nat):Decidable (IsN n sc):=by unfold IsN;infer_instance
def dl (a:Nat):Nat:=(bW 20 a).length
theorem GM:∀ (f a:Nat),a<10 ^ f→0<f→1≤(bW f a).length∧a<10 ^ (bW f a).length
 | 0,a,_,h=>absurd h (by omega)
 | f+1,a,hf,_=>by
   rw[bW]
   by_cases h:a<10
   ·rw[if_pos h];simp;omega
   ·rw[if_neg h]
    have hf':a / 10<10 ^ f:=by rw[Nat.pow_succ] at hf;exact Nat.div_lt_of_lt_mul (by rw[Nat.mul_comm];exact hf)
    have h0:0<f:=by
     cases f with
     | zero=>simp at hf;omega
     | succ f=>omega
    have ih:=GM f (a / 10) hf' h0
    rw[List.length_append,List.length_cons,List.length_nil,Nat.pow_succ]
    omega
theorem qr {a:Nat}(h:a<10 ^ 15):1≤dl a∧dl a≤15∧a<10 ^ dl a:=by
 have h20:a<10 ^ 20:=Nat.lt_of_lt_of_le h (Nat.pow_le_pow_right (by omega) (by omega))
 have h1:=GM 20 a h20 (by omega)
 have h2:=congrArg List.length (fh 14 20 a h20 h (by omega))
 rw[List.length_append,List.length_replicate,eI] at h2
 unfold dl
 exact⟨h1.1,by omega,h1.2⟩
theorem A5 {a K:Nat}(h:a<10 ^ 15)(hK:dl a≤K):List.replicate (K - dl a) 48++bW 20 a=bO K a:=by
 have h20:a<10 ^ 20:=Nat.lt_of_lt_of_le h (Nat.pow_le_pow_right (by omega) (by omega))
 have hs:=qr h
 obtain⟨k,rfl⟩:∃ k,K=k+1:=⟨K - 1,by omega⟩
 exact fh k 20 a h20 (Nat.lt_of_lt_of_le hs.2.2 (Nat.pow_le_pow_right (by omega) hK)) (by omega)
theorem eH (i:Nat):∀ (j a:Nat),bO (i+j) a=bO i (a / 10 ^ j)++bO j a
 | 0,a=>by simp[bO]
 | j+1,a=>by
   rw[← Nat.add_assoc,bO,eH i j (a / 10),bO,List.append_assoc,Nat.div_div_eq_div_mul,Nat.pow_succ,Nat.mul_comm 10]
def nV (n:Int)(sc:Nat):List UInt8:=
 (if n<0 then [45] else [])++(bO (max (dl n.natAbs) (sc+1) - sc) (n.natAbs / 10 ^ sc)++(if sc=0 then [] else 46::bO sc n.natAbs))
theorem Ns {n:Int}(h:-9223372036854775808<n)(h2:n≤9223372036854775807):aw Tryz.prog aF 87 [.int .i64 n] (.int .i64 (n.natAbs:Int)):=by
 have e:max n (0 - n)=(n.natAbs:Int):=by omega
 refine aw.intro NH (by simp[F87]) ?_
 simp(maxSteps:=9^7) (disch:=first|exact dI|fail) only[F87,e,push_cast,seval]
theorem Bp {n:Int}(h:-9223372036854775808<n)(h2:n≤9223372036854775807)(sc:Nat):aw Tryz.prog aF 86 [.agg [.int .i64 n,.int .i64 (sc:Int)]] (.int .i64 (if IsN n sc then 0 else 2)):=by
 have ha:=Ns h h2
 by_cases h1:(999999999999999:Int)<(n.natAbs:Int)
 ·rw[if_neg (by unfold IsN;omega)]
  refine aw.intro B8 (by simp[F86]) ?_
  simp(maxSteps:=9^7) (disch:=first|exact dI|fail) only[F86,push_cast,seval]
  refine ab.pure ha rfl ?_
  simp(maxSteps:=9^7) (disch:=first|exact dI|fail) only[push_cast,seval]
 have h2:¬ n < -999999999999999:=by omega
 have h3:¬ (sc:Int)<0:=by omega
 by_cases h4:(12:Int)<(sc:Int)
 ·rw[if_neg (by unfold IsN;omega)]
  refine aw.intro B8 (by simp[F86]) ?_
  simp(maxSteps:=9^7) (disch:=first|exact dI|fail) only[F86,push_cast,seval]
  refine ab.pure ha rfl ?_
  simp(maxSteps:=9^7) (disch:=first|exact dI|fail) only[push_cast,seval]
 ·rw[if_pos (by unfold IsN;omega)]
  refine aw.intro B8 (by simp[F86]) ?_
  simp(maxSteps:=9^7) (disch:=first|exact dI|fail) only[F86,push_cast,seval]
  refine ab.pure ha rfl ?_
  simp(maxSteps:=9^7) (disch:=first|exact dI|fail) only[push_cast,seval]
theorem w7 {n:Int}(h:-9223372036854775808<n)(h2:n≤9223372036854775807){sc:Nat}(hn:¬ IsN n sc):aw Tryz.prog aF 42 [.agg [.int .i64 n,.int .i64 (sc:Int)]] (.tup [.str [],.int .i64 2]):=by
 have hc:=Bp h h2 sc
 rw[if_neg hn] at hc
 refine aw.intro ov (by simp[F42]) ?_
 simp(maxSteps:=9^7) (disch:=first|exact dI|fail) only[F42,push_cast,seval]
 refine ab.pure hc rfl ?_
 simp(maxSteps:=9^7) (disch:=first|exact dI|fail) only[push_cast,seval]
theorem Ll {n:Int}{sc:Nat}(hn:IsN n sc):aw Tryz.prog aF 42 [.agg [.int .i64 n,.int .i64 (sc:Int)]] (.tup [.str (nV n sc),.int .i64 0]):=by
 obtain⟨hn1,hn2,hn3⟩:=hn
 have hc:=Bp (n:=n) (by omega) (by omega) sc
 rw[if_pos ⟨hn1,hn2,hn3⟩] at hc
 have ha:=Ns (n:=n) (by omega) (by omega)
 have hi:=z7 (n.natAbs:Int) (by omega) (by omega)
 have hlt:n.natAbs<10 ^ 15:=by simp;omega
 have hdl:=qr hlt
 have hL:=A5 hlt (K:=max (dl n.natAbs) (sc+1)) (by omega)
 have hL2:=eH (max (dl n.natAbs) (sc+1) - sc) sc n.natAbs
 rw[show max (dl n.natAbs) (sc+1) - sc+sc=max (dl n.natAbs) (sc+1) by omega] at hL2
 have hr:=Do (sc+1 - dl n.natAbs) (by omega)
 rw[show max (dl n.natAbs) (sc+1) - dl n.natAbs=sc+1 - dl n.natAbs by omega] at hL
 have e1:lk (n.natAbs:Int)=bW 20 n.natAbs:=by unfold lk;rw[if_neg (by omega),Int.toNat_natCast]
 rw[e1] at hi
 have l1:=eI (max (dl n.natAbs) (sc+1) - sc) (n.natAbs / 10 ^ sc)
 have l2:=eI sc n.natAbs
 have l0:(bW 20 n.natAbs).length=dl n.natAbs:=rfl
 have lZ:(List.replicate (sc+1 - dl n.natAbs) (48:UInt8)).length=sc+1 - dl n.natAbs:=by simp
 unfold nV
 rw[hL2] at hL
 have hm:max (0:Int) ((sc:Int)+1 - ((dl n.natAbs:Nat):Int))=((sc+1 - dl n.natAbs:Nat):Int):=by omega
 rw[← hm] at hr
 generalize bO (max (dl n.natAbs) (sc+1) - sc) (n.natAbs / 10 ^ sc)=A at *
 generalize bO sc n.natAbs=B at *
 generalize bW 20 n.natAbs=D at *
 generalize dl n.natAbs=k at *
 generalize List.replicate (sc+1 - k) (48:UInt8)=Z at *
 have lA:1≤A.length:=by omega
 clear hL2 e1 hlt
 by_cases hs:sc=0
 ·subst hs
  rw[if_pos rfl,List.append_nil]
  have hB:B=[]:=List.length_eq_zero_iff.1 l2
  have hDA:D=A:=by
   have hz:Z=[]:=by
    have:=congrArg List.length hL
    simp only[List.length_append] at this
    exact List.length_eq_zero_iff.1 (by omega)
   rw[hz,hB] at hL
   simpa using hL
  subst hDA
  by_cases hneg:n<0
  ·rw[if_pos hneg]
   refine aw.intro ov (by simp[F42]) ?_
   simp(maxSteps:=9^7) (disch:=first|exact dI|fail) only[F42,push_cast,seval]
   refine ab.pure hc rfl ?_
   simp(maxSteps:=9^7) (disch:=first|exact dI|fail) only[push_cast,seval]
   refine ab.pure ha rfl ?_
   simp(maxSteps:=9^7) (disch:=first|exact dI|fail) only[push_cast,seval]
   refine ab.pure hi rfl ?_
   simp(maxSteps:=9^7) (disch:=first|exact dI|fail) only[push_cast,seval]
  ·rw[if_neg hneg]
   refine aw.intro ov (by simp[F42]) ?_
   simp(maxSteps:=9^7) (disch:=first|exact dI|fail) only[F42,push_cast,seval]
   refine ab.pure hc rfl ?_
   simp(maxSteps:=9^7) (disch:=first|exact dI|fail) only[push_cast,seval]
   refine ab.pure ha rfl ?_
   simp(maxSteps:=9^7) (disch:=first|exact dI|fail) only[push_cast,seval]
   refine ab.pure hi rfl ?_
   simp(maxSteps:=9^7) (disch:=first|exact dI|fail) only[push_cast,seval]
 ·rw[if_neg hs]
  have hsI:(0:Int)<(sc:Int):=by omega
  have el:((A.length:Int)+(B.length:Int)) - (sc:Int)=(A.length:Int):=by omega
  have et:(((A++B).length:Int) - (sc:Int)).toNat=A.length:=by rw[List.length_append];omega
  have t1:(A++B).take A.length=A:=by simp
  have t2:(A++B).drop A.length=B:=by simp
  by_cases hneg:n<0
  ·rw[if_pos hneg]
   refine aw.intro ov (by simp[F42]) ?_
   simp(maxSteps:=9^7) (disch:=first|exact dI|fail) only[F42,push_cast,seval]
   refine ab.pure hc rfl ?_
   simp(maxSteps:=9^7) (disch:=first|exact dI|fail) only[push_cast,seval]
   refine ab.pure ha rfl ?_
   simp(maxSteps:=9^7) (disch:=first|exact dI|fail) only[push_cast,seval]
   refine ab.pure hi rfl ?_
   simp(maxSteps:=9^7) (disch:=first|exact dI|fail) only[l0,push_cast,seval]
   refine ab.pure hr rfl ?_
   simp(maxSteps:=9^7) (disch:=first|exact dI|fail) only[hL,el,t1,t2,push_cast,seval]
   rw[et,List.take_length,t1,t2]
  ·rw[if_neg hneg]
   refine aw.intro ov (by simp[F42]) ?_
   simp(maxSteps:=9^7) (disch:=first|exact dI|fail) only[F42,push_cast,seval]
   refine ab.pure hc rfl ?_
   simp(maxSteps:=9^7) (disch:=first|exact dI|fail) only[push_cast,seval]
   refine ab.pure ha rfl ?_
   simp(maxSteps:=9^7) (disch:=first|exact dI|fail) only[push_cast,seval]
   refine ab.pure hi rfl ?_
   simp(maxSteps:=9^7) (disch:=first|exact dI|fail) only[l0,push_cast,seval]
   refine ab.pure hr rfl ?_
   simp(maxSteps:=9^7) (disch:=first|exact dI|fail) only[hL,el,t1,t2,push_cast,seval]
   rw[et,List.take_length,t1,t2]
end Go.Proofs.YtamoeblcphjbaaaGreatDoor
set_option maxRecDepth 100000
set_option linter.unusedVariables false
set_option linter.unusedSimpArgs false
-- many steps
namespace Go.Proofs.YtamoeblcphjbaaaGreatDoor
open Go Go.Ab
attribute [local irreducible] vc
theorem y6 (i a:Nat):bO (i+1) a=UInt8.ofNat (48+a / 10 ^ i % 10)::bO i a:=by
 rw[Nat.add_comm,eH 1 i a]
 simp[bO]
def rdS:Bool→Nat→Nat→List UInt8→Nat×Nat
 | _,v,c,[]=>(v,c)
 | p,v,c,b::r=>if isD b=true then rdS (p||decide (b=46)) (10*v+(b.toNat - 48)) (if (p||decide (b=46))=true then c+1 else c) r else rdS (p||decide (b=46)) v c r
def sgI (s:List UInt8)(v:Nat):Int:=if s.head? = some 45 then -(v:Int) else v
def aW (s:List UInt8):(Int×Nat)×Int:=
 if s=[] then ((0,0),4) else if 17<s.length then ((0,0),5) else
  if IsN (sgI s (rdS false 0 0 s).1) (rdS false 0 0 s).2∧nV (sgI s (rdS false 0 0 s).1) (rdS false 0 0 s).2=s then ((sgI s (rdS false 0 0 s).1,(rdS false 0 0 s).2),0) else ((0,0),13)
theorem rP (s:List UInt8)(c:Int):aw Tryz.prog aF 206 [.str s,.int .u8 c] (.int .i64 (d8 c.toNat.toUInt8 s 0)):=by
 generalize hq:d8 c.toNat.toUInt8 s 0=q
 refine aw.intro Kc (by simp[P8]) ?_
 simp(maxSteps:=9^7) (disch:=first|exact dI|fail) only[P8,l6,mE,hq,push_cast,seval]
theorem il (s:List UInt8)(c:UInt8):aw Tryz.prog aF 159 [.str s,.int .u8 (c.toNat:Int)] (.int .i64 (d8 c s 0)):=by
 have h22:=rP s (c.toNat:Int)
 rw[show ((c.toNat:Int)).toNat.toUInt8=c by simp] at h22
 generalize d8 c s 0=q at *
 refine aw.intro KA (by simp[Qk]) ?_
 simp(maxSteps:=9^7) (disch:=first|exact dI|fail) only[Qk,push_cast,seval]
 refine ab.pure h22 rfl ?_
 simp(maxSteps:=9^7) (disch:=first|exact dI|fail) only[push_cast,seval]
end Go.Proofs.YtamoeblcphjbaaaGreatDoor
