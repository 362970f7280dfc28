/- A part of the proof. -/
import Derived.Test.YtamoeblcphjbaaaGreatDoorPaLD2
set_option maxRecDepth 100000
set_option linter.unusedVariables false
set_option linter.unusedSimpArgs false
namespace Go.Proofs.YtamoeblcphjbaaaGreatDoor
open Go Go.Ab
attribute [local irreducible] vc
theorem oz:∀ k:Nat,Lib.repeatL [48] k=List.replicate k 48
 | 0=>rfl
 | k+1=>by rw[Lib.repeatL,oz k];rfl
theorem tj (k:Nat)(h:k≤17):au Tryz.prog aM 88 [.str [48],.int .i64 (k:Int)] (.str (List.replicate k 48)):=by
 have h1:=oy [48] (k:Int) (by omega) (by omega) (by simp;omega)
 rw[Int.toNat_natCast,oz] at h1;exact h1
def bF:Nat→Nat→List UInt8
 | 0,_=>[]
 | k+1,n=>bF k (n / 10)++[UInt8.ofNat (48+n % 10)]
theorem bn:∀ (k n:Nat),(bF k n).length=k
 | 0,_=>rfl
 | k+1,n=>by simp[bF,bn k]
theorem o7:∀ k:Nat,bF k 0=List.replicate k 48
 | 0=>rfl
 | k+1=>by rw[bF,show 0 / 10=0 from rfl,o7 k,List.replicate_succ'];rfl
theorem eJ:∀ (k f n:Nat),n<10 ^ f→n<10 ^ (k+1)→0<f→List.replicate (k+1 - (cz f n).length) 48++cz f n=bF (k+1) n
 | k,0,n,_,_,h=>absurd h (by omega)
 | k,f+1,n,hf,hk,_=>by
   rw[cz]
   by_cases h:n<10
   ·rw[if_pos h,bF,show n / 10=0 by omega,o7,show n % 10=n by omega]
    simp
   ·rw[if_neg h]
    cases k with
    | zero=>simp at hk;omega
    | succ k=>
      have hf':n / 10<10 ^ f:=by rw[Nat.pow_succ] at hf;exact Nat.div_lt_of_lt_mul (by rw[Nat.mul_comm];exact hf)
      have hk':n / 10<10 ^ (k+1):=by rw[Nat.pow_succ] at hk;exact Nat.div_lt_of_lt_mul (by rw[Nat.mul_comm];exact hk)
      have h0:0<f:=by
       cases f with
       | zero=>simp at hf;omega
       | succ f=>omega
      have ih:=eJ k f (n / 10) hf' hk' h0
      rw[bF,← ih,List.length_append,List.append_assoc]
      simp
theorem EZ:∀ (l:List UInt8),l.all isD=true→bF l.length (k9 0 l).toNat=l:=by
 intro l
 induction hn:l.length generalizing l with
 | zero=>intro _;simp[List.length_eq_zero_iff.1 hn,bF]
 | succ k ih=>
   intro h
   obtain⟨a,c,rfl⟩:∃ a c,l=a++[c]:=by
    refine⟨l.dropLast,l.getLast (by intro e;simp[e] at hn),(List.dropLast_concat_getLast _).symm⟩
   rw[List.all_append,Bool.and_eq_true] at h
   have hc:=kC (c:=c) (by simpa using h.2)
   have h0:=(dq a 0 (by omega) h.1).1
   rw[nD,bF]
   have e1:(10*k9 0 a+((c.toNat:Int) - 48)).toNat / 10=(k9 0 a).toNat:=by omega
   have e2:48+(10*k9 0 a+((c.toNat:Int) - 48)).toNat % 10=c.toNat:=by omega
   rw[e1,e2,ih a (by simpa using hn) h.1]
   simp
theorem Bi {n:Int}{k:Nat}(h0:0≤n)(hk:k≤16)(h1:n.toNat<10 ^ (k+1)):List.replicate (k+1 - (gu n).length) 48++gu n=bF (k+1) n.toNat:=by
 unfold gu
 rw[if_neg (by omega)]
 exact eJ k 20 n.toNat (Nat.lt_of_lt_of_le h1 (Nat.pow_le_pow_right (by omega) (by omega))) h1 (by omega)
theorem eC {n:Int}{k:Nat}(h0:0≤n)(hk:k≤8)(h1:n.toNat<10 ^ (k+1)):au Tryz.prog aM 90 [.int .i64 n,.int .i64 ((k+1:Nat):Int)] (.str (bF (k+1) n.toNat)):=by
 have hp:10 ^ (k+1)≤10 ^ 9:=Nat.pow_le_pow_right (by omega) (by omega)
 have hi:=rP n (by omega) (by omega)
 have hL:=Bi h0 (by omega:k≤16) h1
 have hl:=pB n
 have hr:=tj (k+1 - (gu n).length) (by omega)
 generalize gu n=L at *
 have hm:max (0:Int) ((k:Int)+1 - (L.length:Int))=((k+1 - L.length:Nat):Int):=by omega
 rw[← hm] at hr
 refine au.intro Pl (by simp[F90]) ?_
 simp(disch:=try exact dI) only[F90,push_cast,seval]
 refine ab.pure hi rfl ?_
 refine zgZ ?_
 refine ab.pure hr rfl ?_
 simp(disch:=try exact dI) only[hL,push_cast,seval]
end Go.Proofs.YtamoeblcphjbaaaGreatDoor
-- many steps
namespace Go.Proofs.YtamoeblcphjbaaaGreatDoor
open Go Go.Ab
attribute [local irreducible] vc
def fc (y:Int)(m:Nat)(d:Int):List UInt8:=bF 4 y.toNat++[45]++bF 2 m++[45]++bF 2 d.toNat
theorem yj (y:Int)(m:Nat)(d:Int):(fc y m d).length=10:=by simp[fc,bn]
theorem GI {y:Int}{m:Nat}{d:Int}(h:DateOk y m d):au Tryz.prog aM 43 [.int .i64 (jM y m d - 719162)] (.tup [.str (fc y m d),.int .i64 0]):=by
 have hc:=Kk h
 have hy1:=h.y1
 have hy2:=h.y2
 have hm1:=h.m1
 have hm2:=h.m2
 have hd1:=h.d1
 have hd2:=h.d2
 have hmd:=ft y m
 have p1:=eC (n:=y) (k:=3) (by omega) (by omega) (by simp;omega)
 have p2:=eC (n:=(m:Int)) (k:=1) (by omega) (by omega) (by simp;omega)
 have p3:=eC (n:=d) (k:=1) (by omega) (by omega) (by simp;omega)
 simp only[Nat.reduceAdd,Int.toNat_natCast] at p1 p2 p3
 have l1:=bn 4 y.toNat
 have l2:=bn 2 m
 have l3:=bn 2 d.toNat
 unfold fc
 generalize bF 4 y.toNat=t1 at *
 generalize bF 2 m=t2 at *
 generalize bF 2 d.toNat=t3 at *
 generalize jM y m d - 719162=n at *
 refine au.intro PI (by simp[F43]) ?_
 simp(disch:=try exact dI) only[F43,push_cast,seval]
 refine ab.pure hc rfl ?_
 refine zgZ ?_
 refine ab.pure p1 rfl ?_
 refine zgZ ?_
 refine ab.pure p2 rfl ?_
 refine zgZ ?_
 refine ab.pure p3 rfl ?_
 exact qsZ
theorem H9 {d r:Int}(h1:-719162≤d∧d≤2932896)(h2:0≤r∧r≤86399999):au Tryz.prog aM 91 [.int .i64 (d*86400000+r)] (.tup [.int .i64 d,.int .i64 r,.int .i64 0]):=by
 have hin:=dU (n:=d*86400000+r) (lo:=-62135596800000) (hi:=253402300799999) ⟨by omega,by omega⟩
 obtain⟨n,hn⟩:∃ n,n=d*86400000+r:=⟨_,rfl⟩
 have e1:=gF (a:=n - -62135596800000) (b:=86400000) (by omega)
 have e2:=iY (a:=n - -62135596800000) (b:=86400000) (by omega)
 have e3:-719162+(n - -62135596800000) / 86400000=d:=by omega
 have e4:(n - -62135596800000) % 86400000=r:=by omega
 rw[← hn] at hin ⊢
 refine au.intro Pk (by simp[F91]) ?_
 simp(disch:=try exact dI) only[F91,push_cast,seval]
 refine ab.pure hin rfl ?_
 simp(disch:=try exact dI) only[e1,e2,e3,e4,push_cast,seval]
def lx (t:List UInt8)(h mi s ms:Nat):List UInt8:=t++([84]++bF 2 h++[58]++bF 2 mi++[58]++bF 2 s)++(if ms=0 then [] else [46]++bF 3 ms)++[90]
theorem vh {y:Int}{m:Nat}{d:Int}(hD:DateOk y m d){h mi s ms:Nat}(h1:h≤23)(h2:mi≤59)(h3:s≤59)(h4:ms≤999) :
  au Tryz.prog aM 44 [.int .i64 ((jM y m d - 719162)*86400000+((((60*(h:Int)+mi)*60+s)*1000+ms)))] (.tup [.str (lx (fc y m d) h mi s ms),.int .i64 0]):=by
 have hr:=fv hD
 have hs:=H9 (d:=jM y m d - 719162) (r:=((60*(h:Int)+mi)*60+s)*1000+ms) ⟨by omega,by omega⟩ ⟨by omega,by omega⟩
 have ht:=GI hD
 have htl:=yj y m d
 have p1:=eC (n:=(h:Int)) (k:=1) (by omega) (by omega) (by simp;omega)
 have p2:=eC (n:=(mi:Int)) (k:=1) (by omega) (by omega) (by simp;omega)
 have p3:=eC (n:=(s:Int)) (k:=1) (by omega) (by omega) (by simp;omega)
 have p4:=eC (n:=(ms:Int)) (k:=2) (by omega) (by omega) (by simp;omega)
 simp only[Nat.reduceAdd,Int.toNat_natCast] at p1 p2 p3 p4
 have l1:=bn 2 h
 have l2:=bn 2 mi
 have l3:=bn 2 s
 have l4:=bn 3 ms
 obtain⟨r,hr⟩:∃ r,r=((60*(h:Int)+mi)*60+s)*1000+ms:=⟨_,rfl⟩
 rw[← hr] at hs ⊢
 have q1:=gF (a:=r) (b:=1000) (by omega)
 have q2:=gF (a:=r / 1000) (b:=3600) (by omega)
 have q3:=gF (a:=r / 1000) (b:=60) (by omega)
 have q4:=iY (a:=r / 1000 / 60) (b:=60) (by omega)
 have q5:=iY (a:=r / 1000) (b:=60) (by omega)
 have q6:=iY (a:=r) (b:=1000) (by omega)
 have g2:r / 1000 / 3600=h:=by omega
 have g3:r / 1000 / 60 % 60=mi:=by omega
 have g4:r / 1000 % 60=s:=by omega
 have g5:r % 1000=ms:=by omega
 have hrb:0≤r∧r≤86399999:=⟨by omega,by omega⟩
 clear hr
 unfold lx
 generalize fc y m d=t0 at *
 generalize bF 2 h=t1 at *
 generalize bF 2 mi=t2 at *
 generalize bF 2 s=t3 at *
 generalize bF 3 ms=t4 at *
 generalize jM y m d - 719162=n at *
 generalize n*86400000+r=N at *
 by_cases hm:ms=0
 ·rw[if_pos hm,List.append_nil]
  subst hm
  refine au.intro HG (by simp[F44]) ?_
  simp(disch:=try exact dI) only[F44,push_cast,seval]
  refine ab.pure hs rfl ?_
  refine zgZ ?_
  refine ab.pure ht rfl ?_
  simp(disch:=try exact dI) only[q1,q2,g2,push_cast,seval]
  refine ab.pure p1 rfl ?_
  simp(disch:=try exact dI) only[q3,q4,g3,push_cast,seval]
  refine ab.pure p2 rfl ?_
  simp(disch:=try exact dI) only[q5,g4,push_cast,seval]
  refine ab.pure p3 rfl ?_
  simp(disch:=try exact dI) only[q6,g5,push_cast,seval]
 ·rw[if_neg hm]
  refine au.intro HG (by simp[F44]) ?_
  simp(disch:=try exact dI) only[F44,push_cast,seval]
  refine ab.pure hs rfl ?_
  refine zgZ ?_
  refine ab.pure ht rfl ?_
  simp(disch:=try exact dI) only[q1,q2,g2,push_cast,seval]
  refine ab.pure p1 rfl ?_
  simp(disch:=try exact dI) only[q3,q4,g3,push_cast,seval]
  refine ab.pure p2 rfl ?_
  simp(disch:=try exact dI) only[q5,g4,push_cast,seval]
  refine ab.pure p3 rfl ?_
  have hm':¬ (ms:Int)=0:=by omega
  simp(disch:=try exact dI) only[q6,g5,push_cast,seval]
  refine ab.pure p4 rfl ?_
  exact qsZ
end Go.Proofs.YtamoeblcphjbaaaGreatDoor
-- many steps
namespace Go.Proofs.YtamoeblcphjbaaaGreatDoor
open Go Go.Ab
attribute [local irreducible] vc
def IsN (n:Int)(sc:Nat):Prop:=-999999999999999≤n∧n≤999999999999999∧sc≤12
instance (n:Int) (sc:Nat):Decidable (IsN n sc):=by unfold IsN;infer_instance
def dl (a:Nat):Nat:=(cz 20 a).length
theorem Hs:∀ (f a:Nat),a<10 ^ f→0<f→1≤(cz f a).length∧a<10 ^ (cz f a).length
 | 0,a,_,h=>absurd h (by omega)
 | f+1,a,hf,_=>by
   rw[cz]
   by_cases h:a<10
   ·rw[if_pos h];simp;omega
   ·rw[if_neg h]
    have hf':a / 10<10 ^ f:=by rw[Nat.pow_succ] at hf;exact Nat.div_lt_of_lt_mul (by rw[Nat.mul_comm];exact hf)
    have h0:0<f:=by
     cases f with
     | zero=>simp at hf;omega
     | succ f=>omega
    have ih:=Hs f (a / 10) hf' h0
    rw[List.length_append,List.length_cons,List.length_nil,Nat.pow_succ]
    omega
theorem r4 {a:Nat}(h:a<10 ^ 15):1≤dl a∧dl a≤15∧a<10 ^ dl a:=by
 have h20:a<10 ^ 20:=Nat.lt_of_lt_of_le h (Nat.pow_le_pow_right (by omega) (by omega))
 have h1:=Hs 20 a h20 (by omega)
 have h2:=congrArg List.length (eJ 14 20 a h20 h (by omega))
 rw[List.length_append,List.length_replicate,bn] at h2
 unfold dl
 exact⟨h1.1,by omega,h1.2⟩
theorem B3 {a K:Nat}(h:a<10 ^ 15)(hK:dl a≤K):List.replicate (K - dl a) 48++cz 20 a=bF K a:=by
 have h20:a<10 ^ 20:=Nat.lt_of_lt_of_le h (Nat.pow_le_pow_right (by omega) (by omega))
 have hs:=r4 h
 obtain⟨k,rfl⟩:∃ k,K=k+1:=⟨K - 1,by omega⟩
 exact eJ k 20 a h20 (Nat.lt_of_lt_of_le hs.2.2 (Nat.pow_le_pow_right (by omega) hK)) (by omega)
theorem fJ (i:Nat):∀ (j a:Nat),bF (i+j) a=bF i (a / 10 ^ j)++bF j a
 | 0,a=>by simp[bF]
 | j+1,a=>by
   rw[← Nat.add_assoc,bF,fJ i j (a / 10),bF,List.append_assoc,Nat.div_div_eq_div_mul,Nat.pow_succ,Nat.mul_comm 10]
def mz (n:Int)(sc:Nat):List UInt8:=
 (if n<0 then [45] else [])++(bF (max (dl n.natAbs) (sc+1) - sc) (n.natAbs / 10 ^ sc)++(if sc=0 then [] else 46::bF sc n.natAbs))
theorem O7 {n:Int}(h:-9223372036854775808<n)(h2:n≤9223372036854775807):au Tryz.prog aM 87 [.int .i64 n] (.int .i64 (n.natAbs:Int)):=by
 have e:max n (0 - n)=(n.natAbs:Int):=by omega
 refine au.intro Pn (by simp[F87]) ?_
 simp(disch:=try exact dI) only[F87,e,push_cast,seval]
theorem Ch {n:Int}(h:-9223372036854775808<n)(h2:n≤9223372036854775807)(sc:Nat):au Tryz.prog aM 86 [.agg [.int .i64 n,.int .i64 (sc:Int)]] (.int .i64 (if IsN n sc then 0 else 2)):=by
 have ha:=O7 h h2
 by_cases h1:(999999999999999:Int)<(n.natAbs:Int)
 ·rw[if_neg (by unfold IsN;omega)]
  refine au.intro CR (by simp[F86]) ?_
  simp(disch:=try exact dI) only[F86,push_cast,seval]
  refine ab.pure ha rfl ?_
  exact qsZ
 have h2:¬ n < -999999999999999:=by omega
 have h3:¬ (sc:Int)<0:=by omega
 by_cases h4:(12:Int)<(sc:Int)
 ·rw[if_neg (by unfold IsN;omega)]
  refine au.intro CR (by simp[F86]) ?_
  simp(disch:=try exact dI) only[F86,push_cast,seval]
  refine ab.pure ha rfl ?_
  exact qsZ
 ·rw[if_pos (by unfold IsN;omega)]
  refine au.intro CR (by simp[F86]) ?_
  simp(disch:=try exact dI) only[F86,push_cast,seval]
  refine ab.pure ha rfl ?_
  exact qsZ
theorem yk {n:Int}(h:-9223372036854775808<n)(h2:n≤9223372036854775807){sc:Nat}(hn:¬ IsN n sc):au Tryz.prog aM 42 [.agg [.int .i64 n,.int .i64 (sc:Int)]] (.tup [.str [],.int .i64 2]):=by
 have hc:=Ch h h2 sc
 rw[if_neg hn] at hc
 refine au.intro qo (by simp[F42]) ?_
 simp(disch:=try exact dI) only[F42,push_cast,seval]
 refine ab.pure hc rfl ?_
 exact qsZ
theorem MH {n:Int}{sc:Nat}(hn:IsN n sc):au Tryz.prog aM 42 [.agg [.int .i64 n,.int .i64 (sc:Int)]] (.tup [.str (mz n sc),.int .i64 0]):=by
 obtain⟨hn1,hn2,hn3⟩:=hn
 have hc:=Ch (n:=n) (by omega) (by omega) sc
 rw[if_pos ⟨hn1,hn2,hn3⟩] at hc
 have ha:=O7 (n:=n) (by omega) (by omega)
 have hi:=rP (n.natAbs:Int) (by omega) (by omega)
 have hlt:n.natAbs<10 ^ 15:=by simp;omega
 have hdl:=r4 hlt
 have hL:=B3 hlt (K:=max (dl n.natAbs) (sc+1)) (by omega)
 have hL2:=fJ (max (dl n.natAbs) (sc+1) - sc) sc n.natAbs
 rw[show max (dl n.natAbs) (sc+1) - sc+sc=max (dl n.natAbs) (sc+1) by omega] at hL2
 have hr:=tj (sc+1 - dl n.natAbs) (by omega)
 rw[show max (dl n.natAbs) (sc+1) - dl n.natAbs=sc+1 - dl n.natAbs by omega] at hL
 have e1:gu (n.natAbs:Int)=cz 20 n.natAbs:=by unfold gu;rw[if_neg (by omega),Int.toNat_natCast]
 rw[e1] at hi
 have l1:=bn (max (dl n.natAbs) (sc+1) - sc) (n.natAbs / 10 ^ sc)
 have l2:=bn sc n.natAbs
 have l0:(cz 20 n.natAbs).length=dl n.natAbs:=rfl
 have lZ:(List.replicate (sc+1 - dl n.natAbs) (48:UInt8)).length=sc+1 - dl n.natAbs:=by simp
 unfold mz
 rw[hL2] at hL
 have hm:max (0:Int) ((sc:Int)+1 - ((dl n.natAbs:Nat):Int))=((sc+1 - dl n.natAbs:Nat):Int):=by omega
 rw[← hm] at hr
 generalize bF (max (dl n.natAbs) (sc+1) - sc) (n.natAbs / 10 ^ sc)=A at *
 generalize bF sc n.natAbs=B at *
 generalize cz 20 n.natAbs=D at *
 generalize dl n.natAbs=k at *
 generalize List.replicate (sc+1 - k) (48:UInt8)=Z at *
 have lA:1≤A.length:=by omega
 clear hL2 e1 hlt
 by_cases hs:sc=0
 ·subst hs
  rw[if_pos rfl,List.append_nil]
  have hB:B=[]:=List.length_eq_zero_iff.1 l2
  have hDA:D=A:=by
   have hz:Z=[]:=by
    have:=congrArg List.length hL
    simp only[List.length_append] at this
    exact List.length_eq_zero_iff.1 (by omega)
   rw[hz,hB] at hL
   simpa using hL
  subst hDA
  by_cases hneg:n<0
  ·rw[if_pos hneg]
   refine au.intro qo (by simp[F42]) ?_
   simp(disch:=try exact dI) only[F42,push_cast,seval]
   refine ab.pure hc rfl ?_
   refine zgZ ?_
   refine ab.pure ha rfl ?_
   refine zgZ ?_
   refine ab.pure hi rfl ?_
   exact qsZ
  ·rw[if_neg hneg]
   refine au.intro qo (by simp[F42]) ?_
   simp(disch:=try exact dI) only[F42,push_cast,seval]
   refine ab.pure hc rfl ?_
   refine zgZ ?_
   refine ab.pure ha rfl ?_
   refine zgZ ?_
   refine ab.pure hi rfl ?_
   exact qsZ
 ·rw[if_neg hs]
  have hsI:(0:Int)<(sc:Int):=by omega
  have el:((A.length:Int)+(B.length:Int)) - (sc:Int)=(A.length:Int):=by omega
  have et:(((A++B).length:Int) - (sc:Int)).toNat=A.length:=by rw[List.length_append];omega
  have t1:(A++B).take A.length=A:=by simp
  have t2:(A++B).drop A.length=B:=by simp
  by_cases hneg:n<0
  ·rw[if_pos hneg]
   refine au.intro qo (by simp[F42]) ?_
   simp(disch:=try exact dI) only[F42,push_cast,seval]
   refine ab.pure hc rfl ?_
   refine zgZ ?_
   refine ab.pure ha rfl ?_
   refine zgZ ?_
   refine ab.pure hi rfl ?_
   simp(disch:=try exact dI) only[l0,push_cast,seval]
   refine ab.pure hr rfl ?_
   simp(disch:=try exact dI) only[hL,el,t1,t2,push_cast,seval]
   rw[et,List.take_length,t1,t2]
  ·rw[if_neg hneg]
   refine au.intro qo (by simp[F42]) ?_
   simp(disch:=try exact dI) only[F42,push_cast,seval]
   refine ab.pure hc rfl ?_
   refine zgZ ?_
   refine ab.pure ha rfl ?_
   refine zgZ ?_
   refine ab.pure hi rfl ?_
   simp(disch:=try exact dI) only[l0,push_cast,seval]
   refine ab.pure hr rfl ?_
   simp(disch:=try exact dI) only[hL,el,t1,t2,push_cast,seval]
   rw[et,List.take_length,t1,t2]
end Go.Proofs.YtamoeblcphjbaaaGreatDoor
-- many steps
namespace Go.Proofs.YtamoeblcphjbaaaGreatDoor
open Go Go.Ab
attribute [local irreducible] vc
theorem Aw (i a:Nat):bF (i+1) a=UInt8.ofNat (48+a / 10 ^ i % 10)::bF i a:=by
 rw[Nat.add_comm,fJ 1 i a]
 simp[bF]
def rdS:Bool→Nat→Nat→List UInt8→Nat×Nat
 | _,v,c,[]=>(v,c)
 | p,v,c,b::r=>if isD b=true then rdS (p||decide (b=46)) (10*v+(b.toNat - 48)) (if (p||decide (b=46))=true then c+1 else c) r else rdS (p||decide (b=46)) v c r
def sgI (s:List UInt8)(v:Nat):Int:=if s.head? = some 45 then -(v:Int) else v
def aQ (s:List UInt8):(Int×Nat)×Int:=
 if s=[] then ((0,0),4) else if 17<s.length then ((0,0),5) else
  if IsN (sgI s (rdS false 0 0 s).1) (rdS false 0 0 s).2∧mz (sgI s (rdS false 0 0 s).1) (rdS false 0 0 s).2=s then ((sgI s (rdS false 0 0 s).1,(rdS false 0 0 s).2),0) else ((0,0),13)
theorem ue (s:List UInt8)(c:Int):au Tryz.prog aM 206 [.str s,.int .u8 c] (.int .i64 (e6 c.toNat.toUInt8 s 0)):=by
 generalize hq:e6 c.toNat.toUInt8 s 0=q
 refine au.intro KV (by simp[R9]) ?_
 simp(disch:=try exact dI) only[R9,n8,oJ,hq,push_cast,seval]
theorem jG (s:List UInt8)(c:UInt8):au Tryz.prog aM 159 [.str s,.int .u8 (c.toNat:Int)] (.int .i64 (e6 c s 0)):=by
 have h22:=ue s (c.toNat:Int)
 rw[show ((c.toNat:Int)).toNat.toUInt8=c by simp] at h22
 generalize e6 c s 0=q at *
 refine au.intro Lo (by simp[Sm]) ?_
 simp(disch:=try exact dI) only[Sm,push_cast,seval]
 refine ab.pure h22 rfl ?_
 exact qsZ
end Go.Proofs.YtamoeblcphjbaaaGreatDoor
