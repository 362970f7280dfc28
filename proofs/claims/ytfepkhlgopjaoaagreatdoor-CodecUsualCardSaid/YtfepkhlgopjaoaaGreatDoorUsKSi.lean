/- A part of the proof for CodecUsualCardSaid. -/
import Derived.Test.YtfepkhlgopjaoaaGreatDoorUsKSf
import Derived.Test.YtfepkhlgopjaoaaGreatDoorUsCore6
import Derived.Test.YtfepkhlgopjaoaaGreatDoorUsF
import Derived.Test.YtfepkhlgopjaoaaGreatDoorUsKD2
set_option linter.unusedVariables false
set_option linter.unusedSimpArgs false
set_option maxRecDepth 100000
-- many steps
namespace Go.Proofs.YtfepkhlgopjaoaaGreatDoor
open Go Go.Ab
attribute [local irreducible] vc
theorem vN {k m M s:Int}{w:List (List UInt8)}{e:List Typ}{f:List TFd}(h:eZ (.mk k m M s w e f)=0):(¬ k=8→e=[])∧(¬ (k=9∨k=10)→f=[]):=by
 rw[eZ] at h
 by_cases a:inB k 1 10=false
 ·rw[if_pos a] at h;exact absurd h (by decide)
 rw[if_neg a] at h
 have hr:1≤k∧k≤10:=by simpa[inB] using a
 by_cases b:eP k (.mk k m M s w e f)=true
 ·rw[if_pos b] at h;exact absurd h (by decide)
 have b':eP k (.mk k m M s w e f)=false:=by simpa using b
 simp only[eP,aD,Bool.or_eq_false_iff] at b'
 obtain⟨_,_,_,b4,b5⟩:=b'
 refine⟨fun h8=>?_,fun h9=>?_⟩
 ·rw[decide_eq_false h8] at b4
  exact List.length_eq_zero_iff.1 (by simpa using b4)
 ·have h9':¬ 9≤k:=by omega
  rw[decide_eq_false h9'] at b5
  exact List.length_eq_zero_iff.1 (by simpa using b5)
theorem F6 {m M s:Int}{w:List (List UInt8)}{e:List Typ}{f:List TFd}(h:eZ (.mk 8 m M s w e f)=0):m≤256:=by
 have hb:=(bG h).2.1
 unfold cZ at hb
 rw[if_neg (fun hh=>absurd hh.1 (by decide))] at hb
 by_cases hc:(2≤(8:Int)∧(8:Int)≤8)∧(M<m∨m<loK 8∨hiK 8<M)
 ·rw[if_pos hc] at hb;exact absurd hb (by decide)
 ·have h2:¬ (M<m∨m<loK 8∨hiK 8<M):=fun hh=>hc ⟨by decide,hh⟩
  rw[show hiK 8=256 from rfl] at h2
  omega
theorem F3 {m M s:Int}{w:List (List UInt8)}{e:List Typ}{f:List TFd}(h:eZ (.mk 10 m M s w e f)=0):∃ g r,f=g::r:=by
 have h1:=(bG h).2.2.1
 cases f with
 | cons g r=>exact⟨g,r,rfl⟩
 | nil=>simp[bF] at h1
theorem DZ {k m M s:Int}{w:List (List UInt8)}{e:List Typ}{f:List TFd}(h:eZ (.mk k m M s w e f)=0):f.length≤64:=by
 have h1:=(bG h).2.2.1
 by_cases hc:64<f.length
 ·exfalso
  unfold bF at h1
  repeat' split at h1
  all_goals first | exact absurd h1 (by decide) | omega
 ·omega
theorem CX {n:Nat}{a:Int}{nm:List UInt8}{t:Typ}{x:Val}{r:List Val}(h:iz n (.mk a nm 3 t (x::r))=false)(hx:x.ok):IR x:=by
 have h1:accB n t x=true:=by simpa[iz,xb] using h
 have h2:Ko x=0:=by simp only[accB,Bool.and_eq_true,decide_eq_true_eq] at h1;exact h1.1
 have:=pp (dj (lvl x) 1 x) 0 (by omega) h2
 exact⟨hx,by omega⟩
theorem f7:∀ (n N:Nat) (t:Typ),n≤N→tyV n t→t.ok→de N t
 | 0,_,_,_,h,_=>h.elim
 | _+1,0,_,h,_,_=>absurd h (by omega)
 | n+1,N+1,.mk k m M s w e f,hN,h,ht=>by
   obtain⟨ho,h8,h9⟩:=h
   rw[Typ.ok_mk] at ht
   obtain⟨_,_,_,_,_,_,t3,t5,t4,t6⟩:=ht
   refine⟨fun hk hm=>?_,fun hk=>?_,fun hk=>⟨DZ ho,fun g hg=>?_⟩⟩
   ·subst hk
    obtain⟨x,rfl⟩:=oM ho
    exact⟨F6 ho,x,[],rfl,f7 n N x (by omega) (h8 rfl x (List.mem_cons_self ..)) (t5 x (List.mem_cons_self ..))⟩
   ·subst hk
    obtain⟨g,r,rfl⟩:=F3 ho
    exact⟨g,r,rfl,f7 n N g.typ (by omega) (h9 (.inr rfl) g (List.mem_cons_self ..)).1 (fH (t6 g (List.mem_cons_self ..))).1⟩
   ·subst hk
    have hs:=f7 n N g.typ (by omega) (h9 (.inl rfl) g hg).1 (fH (t6 g hg)).1
    obtain⟨b,hb⟩:=eu f [] (bG ho).2.2.2 g hg
    have hd:=(fH (t6 g hg)).2
    have hdf:=(h9 (.inl rfl) g hg).2 rfl
    obtain⟨n',nm',nd',t',d'⟩:=g
    refine⟨fun _=>hs,fun h3=>?_⟩
    subst h3
    obtain⟨x,r,rfl⟩:=i1 hb
    exact⟨x,r,rfl,CX hdf (hd x (List.mem_cons_self ..))⟩
theorem yU:∀ (n:Nat) (t:Typ),n≤9→tyV n t→t.ok→KQ n t
 | 0,_,_,h,_=>h.elim
 | n+1,.mk k m M s w e f,hN,h,ht=>by
   have hs:=f7 (n+1) 9 _ hN h ht
   obtain⟨ho,h8,h9⟩:=h
   obtain⟨he,hf⟩:=vN ho
   rw[Typ.ok_mk] at ht
   obtain⟨_,_,_,_,_,_,t3,t5,t4,t6⟩:=ht
   refine⟨hs,by omega,by omega,fun x hx=>?_,fun g hg=>?_⟩
   ·by_cases hk:k=8
    ·exact yU n x (by omega) (h8 hk x hx) (t5 x hx)
    ·rw[he hk] at hx;cases hx
   ·by_cases hk:k=9∨k=10
    ·exact yU n g.typ (by omega) (h9 hk g hg).1 (fH (t6 g hg)).1
    ·rw[hf hk] at hg;cases hg
noncomputable def mE (t:Typ):Int:=if (dV 0 8 4096 t).1=0 then (if 4096<cw 8 t then 9 else 0) else (dV 0 8 4096 t).1
theorem nY (t:Typ)(ht:t.ok):ap Tryz.prog az 41 [t.pv] (.int .i64 (mE t)):=by
 have h94:=yh 8 (by omega) t 1 4096 ht (by omega) (by omega) (by omega)
 have h95:(dV 0 8 4096 t).1=0→ap Tryz.prog az 78 [t.pv] (.int .i64 (cw 8 t)):=fun h=>d6 8 t (yU 8 t (by omega) (fy 8 4096 t h) ht)
 simp only[mE]
 obtain⟨⟨z,L⟩,hq⟩:∃ q,q=dV 0 8 4096 t:=⟨_,rfl⟩
 rw[← hq] at h94 h95 ⊢
 simp only at h94 h95 ⊢
 clear hq
 generalize cw 8 t=G at h95 ⊢
 obtain⟨k,m,M,s,w,e,f⟩:=t
 simp only[Typ.pv_mk] at h94 h95
 refine ap.intro Ln (by simp[F41]) ?_
 by_cases hz:z=0
 ·subst hz
  have h95:=h95 rfl
  rw[if_pos rfl]
  by_cases hg:4096<G
  ·rw[if_pos hg]
   simp(maxSteps:=9^7) (disch:=try exact dI) only[F41,Typ.pv_mk,push_cast,seval]
   refine ae.lentK h94 [1] rfl qsZ qsZ ?_
   simp(maxSteps:=9^7) (disch:=try exact dI) only[push_cast,seval]
   refine ae.pure h95 rfl ?_
   simp(maxSteps:=9^7) (disch:=try exact dI) only[hg,push_cast,seval]
  ·rw[if_neg hg]
   simp(maxSteps:=9^7) (disch:=try exact dI) only[F41,Typ.pv_mk,push_cast,seval]
   refine ae.lentK h94 [1] rfl qsZ qsZ ?_
   simp(maxSteps:=9^7) (disch:=try exact dI) only[push_cast,seval]
   refine ae.pure h95 rfl ?_
   simp(maxSteps:=9^7) (disch:=try exact dI) only[hg,push_cast,seval]
 ·rw[if_neg hz]
  simp(maxSteps:=9^7) (disch:=try exact dI) only[F41,Typ.pv_mk,push_cast,seval]
  refine ae.lentK h94 [1] rfl qsZ qsZ ?_
  simp(maxSteps:=9^7) (disch:=try exact dI) only[hz,push_cast,seval]
end Go.Proofs.YtfepkhlgopjaoaaGreatDoor
namespace Go.Ab
open Go
def MF (y:Int):Bool:=decide (y % 4=0)&&(!decide (y % 100=0)||decide (y % 400=0))
def mdI (y m:Int):Int:=if m=2 then (if MF y=true then 29 else 28) else if m=4∨m=6∨m=9∨m=11 then 30 else 31
structure DateOk (y:Int)(m:Nat)(d:Int):Prop where
 y1:1≤y
 y2:y≤9999
 m1:1≤m
 m2:m≤12
 d1:1≤d
 d2:d≤mdI y m
end Go.Ab
-- many steps
namespace Go.Proofs.YtfepkhlgopjaoaaGreatDoor
open Go Go.Ab
attribute [local irreducible] vc
end Go.Proofs.YtfepkhlgopjaoaaGreatDoor
-- many steps
namespace Go.Proofs.YtfepkhlgopjaoaaGreatDoor
open Go Go.Ab
open Nat renaming reduceEqDiff→qa,reduceAdd→qb,reduceMul→qc,reduceLeDiff→qd,reduceLT→qe,reduceBEq→qf,reduceSub→qg
open Int renaming reduceToNat→qh,reduceNeg→qi
attribute [local irreducible] vc
end Go.Proofs.YtfepkhlgopjaoaaGreatDoor
-- many steps
namespace Go.Proofs.YtfepkhlgopjaoaaGreatDoor
open Go Go.Ab
attribute [local irreducible] vc
end Go.Proofs.YtfepkhlgopjaoaaGreatDoor
-- many steps
namespace Go.Proofs.YtfepkhlgopjaoaaGreatDoor
open Go Go.Ab
attribute [local irreducible] vc
end Go.Proofs.YtfepkhlgopjaoaaGreatDoor
namespace Go.Proofs.YtfepkhlgopjaoaaGreatDoor
open Go Go.Ab
attribute [local irreducible] vc
theorem kw:∀ k:Nat,Lib.repeatL [48] k=List.replicate k 48
 | 0=>rfl
 | k+1=>by rw[Lib.repeatL,kw k];rfl
theorem AR (k:Nat)(h:k≤17):ap Tryz.prog az 71 [.str [48],.int .i64 (k:Int)] (.str (List.replicate k 48)):=by
 have h1:=kv [48] (k:Int) (by omega) (by omega) (by simp;omega)
 rw[Int.toNat_natCast,kw] at h1;exact h1
def iv:Nat→Nat→List UInt8
 | 0,_=>[]
 | k+1,n=>iv k (n / 10)++[UInt8.ofNat (48+n % 10)]
theorem gi:∀ (k n:Nat),(iv k n).length=k
 | 0,_=>rfl
 | k+1,n=>by simp[iv,gi k]
theorem kQ:∀ k:Nat,iv k 0=List.replicate k 48
 | 0=>rfl
 | k+1=>by rw[iv,show 0 / 10=0 from rfl,kQ k,List.replicate_succ'];rfl
theorem ey:∀ (k f n:Nat),n<10 ^ f→n<10 ^ (k+1)→0<f→List.replicate (k+1 - (bn f n).length) 48++bn f n=iv (k+1) n
 | k,0,n,_,_,h=>absurd h (by omega)
 | k,f+1,n,hf,hk,_=>by
   rw[bn]
   by_cases h:n<10
   ·rw[if_pos h,iv,show n / 10=0 by omega,kQ,show n % 10=n by omega]
    simp
   ·rw[if_neg h]
    cases k with
    | zero=>simp at hk;omega
    | succ k=>
      have hf':n / 10<10 ^ f:=by rw[Nat.pow_succ] at hf;exact Nat.div_lt_of_lt_mul (by rw[Nat.mul_comm];exact hf)
      have hk':n / 10<10 ^ (k+1):=by rw[Nat.pow_succ] at hk;exact Nat.div_lt_of_lt_mul (by rw[Nat.mul_comm];exact hk)
      have h0:0<f:=by
       cases f with
       | zero=>simp at hf;omega
       | succ f=>omega
      have ih:=ey k f (n / 10) hf' hk' h0
      rw[iv,← ih,List.length_append,List.append_assoc]
      simp
end Go.Proofs.YtfepkhlgopjaoaaGreatDoor
-- many steps
namespace Go.Proofs.YtfepkhlgopjaoaaGreatDoor
open Go Go.Ab
attribute [local irreducible] vc
end Go.Proofs.YtfepkhlgopjaoaaGreatDoor
-- many steps
namespace Go.Proofs.YtfepkhlgopjaoaaGreatDoor
open Go Go.Ab
attribute [local irreducible] vc
def IsN (n:Int)(sc:Nat):Prop:=-999999999999999≤n∧n≤999999999999999∧sc≤12
instance (n:Int) (sc:Nat):Decidable (IsN n sc):=by unfold IsN;infer_instance
def dl (a:Nat):Nat:=(bn 20 a).length
theorem Ef:∀ (f a:Nat),a<10 ^ f→0<f→1≤(bn f a).length∧a<10 ^ (bn f a).length
 | 0,a,_,h=>absurd h (by omega)
 | f+1,a,hf,_=>by
   rw[bn]
   by_cases h:a<10
   ·rw[if_pos h];simp;omega
   ·rw[if_neg h]
    have hf':a / 10<10 ^ f:=by rw[Nat.pow_succ] at hf;exact Nat.div_lt_of_lt_mul (by rw[Nat.mul_comm];exact hf)
    have h0:0<f:=by
     cases f with
     | zero=>simp at hf;omega
     | succ f=>omega
    have ih:=Ef f (a / 10) hf' h0
    rw[List.length_append,List.length_cons,List.length_nil,Nat.pow_succ]
    omega
theorem x4 {a:Nat}(h:a<10 ^ 15):1≤dl a∧dl a≤15∧a<10 ^ dl a:=by
 have h20:a<10 ^ 20:=Nat.lt_of_lt_of_le h (Nat.pow_le_pow_right (by omega) (by omega))
 have h1:=Ef 20 a h20 (by omega)
 have h2:=congrArg List.length (ey 14 20 a h20 h (by omega))
 rw[List.length_append,List.length_replicate,gi] at h2
 unfold dl
 exact⟨h1.1,by omega,h1.2⟩
theorem x6 {a K:Nat}(h:a<10 ^ 15)(hK:dl a≤K):List.replicate (K - dl a) 48++bn 20 a=iv K a:=by
 have h20:a<10 ^ 20:=Nat.lt_of_lt_of_le h (Nat.pow_le_pow_right (by omega) (by omega))
 have hs:=x4 h
 obtain⟨k,rfl⟩:∃ k,K=k+1:=⟨K - 1,by omega⟩
 exact ey k 20 a h20 (Nat.lt_of_lt_of_le hs.2.2 (Nat.pow_le_pow_right (by omega) hK)) (by omega)
theorem iP (i:Nat):∀ (j a:Nat),iv (i+j) a=iv i (a / 10 ^ j)++iv j a
 | 0,a=>by simp[iv]
 | j+1,a=>by
   rw[← Nat.add_assoc,iv,iP i j (a / 10),iv,List.append_assoc,Nat.div_div_eq_div_mul,Nat.pow_succ,Nat.mul_comm 10]
def tf (n:Int)(sc:Nat):List UInt8:=
 (if n<0 then [45] else [])++(iv (max (dl n.natAbs) (sc+1) - sc) (n.natAbs / 10 ^ sc)++(if sc=0 then [] else 46::iv sc n.natAbs))
theorem KX {n:Int}(h:-9223372036854775808<n)(h2:n≤9223372036854775807):ap Tryz.prog az 201 [.int .i64 n] (.int .i64 (n.natAbs:Int)):=by
 have e:max n (0 - n)=(n.natAbs:Int):=by omega
 refine ap.intro HU (by simp[Nx]) ?_
 simp(maxSteps:=9^7) (disch:=try exact dI) only[Nx,e,push_cast,seval]
theorem He {n:Int}(h:-9223372036854775808<n)(h2:n≤9223372036854775807)(sc:Nat):ap Tryz.prog az 200 [.agg [.int .i64 n,.int .i64 (sc:Int)]] (.int .i64 (if IsN n sc then 0 else 2)):=by
 have ha:=KX h h2
 by_cases h1:(999999999999999:Int)<(n.natAbs:Int)
 ·rw[if_neg (by unfold IsN;omega)]
  refine ap.intro oi (by simp[HV]) ?_
  simp(maxSteps:=9^7) (disch:=try exact dI) only[HV,push_cast,seval]
  refine ae.pure ha rfl ?_
  simp(maxSteps:=9^7) (disch:=try exact dI) only[push_cast,seval]
 have h2:¬ n < -999999999999999:=by omega
 have h3:¬ (sc:Int)<0:=by omega
 by_cases h4:(12:Int)<(sc:Int)
 ·rw[if_neg (by unfold IsN;omega)]
  refine ap.intro oi (by simp[HV]) ?_
  simp(maxSteps:=9^7) (disch:=try exact dI) only[HV,push_cast,seval]
  refine ae.pure ha rfl ?_
  simp(maxSteps:=9^7) (disch:=try exact dI) only[push_cast,seval]
 ·rw[if_pos (by unfold IsN;omega)]
  refine ap.intro oi (by simp[HV]) ?_
  simp(maxSteps:=9^7) (disch:=try exact dI) only[HV,push_cast,seval]
  refine ae.pure ha rfl ?_
  simp(maxSteps:=9^7) (disch:=try exact dI) only[push_cast,seval]
theorem IH {n:Int}{sc:Nat}(hn:IsN n sc):ap Tryz.prog az 116 [.agg [.int .i64 n,.int .i64 (sc:Int)]] (.tup [.str (tf n sc),.int .i64 0]):=by
 obtain⟨hn1,hn2,hn3⟩:=hn
 have hc:=He (n:=n) (by omega) (by omega) sc
 rw[if_pos ⟨hn1,hn2,hn3⟩] at hc
 have ha:=KX (n:=n) (by omega) (by omega)
 have hi:=wT (n.natAbs:Int) (by omega) (by omega)
 have hlt:n.natAbs<10 ^ 15:=by simp;omega
 have hdl:=x4 hlt
 have hL:=x6 hlt (K:=max (dl n.natAbs) (sc+1)) (by omega)
 have hL2:=iP (max (dl n.natAbs) (sc+1) - sc) sc n.natAbs
 rw[show max (dl n.natAbs) (sc+1) - sc+sc=max (dl n.natAbs) (sc+1) by omega] at hL2
 have hr:=AR (sc+1 - dl n.natAbs) (by omega)
 rw[show max (dl n.natAbs) (sc+1) - dl n.natAbs=sc+1 - dl n.natAbs by omega] at hL
 have e1:jG (n.natAbs:Int)=bn 20 n.natAbs:=by unfold jG;rw[if_neg (by omega),Int.toNat_natCast]
 rw[e1] at hi
 have l1:=gi (max (dl n.natAbs) (sc+1) - sc) (n.natAbs / 10 ^ sc)
 have l2:=gi sc n.natAbs
 have l0:(bn 20 n.natAbs).length=dl n.natAbs:=rfl
 have lZ:(List.replicate (sc+1 - dl n.natAbs) (48:UInt8)).length=sc+1 - dl n.natAbs:=by simp
 unfold tf
 rw[hL2] at hL
 have hm:max (0:Int) ((sc:Int)+1 - ((dl n.natAbs:Nat):Int))=((sc+1 - dl n.natAbs:Nat):Int):=by omega
 rw[← hm] at hr
 generalize iv (max (dl n.natAbs) (sc+1) - sc) (n.natAbs / 10 ^ sc)=A at *
 generalize iv sc n.natAbs=B at *
 generalize bn 20 n.natAbs=D at *
 generalize dl n.natAbs=k at *
 generalize List.replicate (sc+1 - k) (48:UInt8)=Z at *
 have lA:1≤A.length:=by omega
 clear hL2 e1 hlt
 by_cases hs:sc=0
 ·subst hs
  rw[if_pos rfl,List.append_nil]
  have hB:B=[]:=List.length_eq_zero_iff.1 l2
  have hDA:D=A:=by
   have hz:Z=[]:=by
    have:=congrArg List.length hL
    simp only[List.length_append] at this
    exact List.length_eq_zero_iff.1 (by omega)
   rw[hz,hB] at hL
   simpa using hL
  subst hDA
  by_cases hneg:n<0
  ·rw[if_pos hneg]
   refine ap.intro j1 (by simp[DF]) ?_
   simp(maxSteps:=9^7) (disch:=try exact dI) only[DF,push_cast,seval]
   refine ae.pure hc rfl ?_
   simp(maxSteps:=9^7) (disch:=try exact dI) only[push_cast,seval]
   refine ae.pure ha rfl ?_
   simp(maxSteps:=9^7) (disch:=try exact dI) only[push_cast,seval]
   refine ae.pure hi rfl ?_
   simp(maxSteps:=9^7) (disch:=try exact dI) only[push_cast,seval]
  ·rw[if_neg hneg]
   refine ap.intro j1 (by simp[DF]) ?_
   simp(maxSteps:=9^7) (disch:=try exact dI) only[DF,push_cast,seval]
   refine ae.pure hc rfl ?_
   simp(maxSteps:=9^7) (disch:=try exact dI) only[push_cast,seval]
   refine ae.pure ha rfl ?_
   simp(maxSteps:=9^7) (disch:=try exact dI) only[push_cast,seval]
   refine ae.pure hi rfl ?_
   simp(maxSteps:=9^7) (disch:=try exact dI) only[push_cast,seval]
 ·rw[if_neg hs]
  have hsI:(0:Int)<(sc:Int):=by omega
  have el:((A.length:Int)+(B.length:Int)) - (sc:Int)=(A.length:Int):=by omega
  have et:(((A++B).length:Int) - (sc:Int)).toNat=A.length:=by rw[List.length_append];omega
  have t1:(A++B).take A.length=A:=by simp
  have t2:(A++B).drop A.length=B:=by simp
  by_cases hneg:n<0
  ·rw[if_pos hneg]
   refine ap.intro j1 (by simp[DF]) ?_
   simp(maxSteps:=9^7) (disch:=try exact dI) only[DF,push_cast,seval]
   refine ae.pure hc rfl ?_
   simp(maxSteps:=9^7) (disch:=try exact dI) only[push_cast,seval]
   refine ae.pure ha rfl ?_
   simp(maxSteps:=9^7) (disch:=try exact dI) only[push_cast,seval]
   refine ae.pure hi rfl ?_
   simp(maxSteps:=9^7) (disch:=try exact dI) only[l0,push_cast,seval]
   refine ae.pure hr rfl ?_
   simp(maxSteps:=9^7) (disch:=try exact dI) only[hL,el,t1,t2,push_cast,seval]
   rw[et,List.take_length,t1,t2]
  ·rw[if_neg hneg]
   refine ap.intro j1 (by simp[DF]) ?_
   simp(maxSteps:=9^7) (disch:=try exact dI) only[DF,push_cast,seval]
   refine ae.pure hc rfl ?_
   simp(maxSteps:=9^7) (disch:=try exact dI) only[push_cast,seval]
   refine ae.pure ha rfl ?_
   simp(maxSteps:=9^7) (disch:=try exact dI) only[push_cast,seval]
   refine ae.pure hi rfl ?_
   simp(maxSteps:=9^7) (disch:=try exact dI) only[l0,push_cast,seval]
   refine ae.pure hr rfl ?_
   simp(maxSteps:=9^7) (disch:=try exact dI) only[hL,el,t1,t2,push_cast,seval]
   rw[et,List.take_length,t1,t2]
end Go.Proofs.YtfepkhlgopjaoaaGreatDoor
-- many steps
namespace Go.Proofs.YtfepkhlgopjaoaaGreatDoor
open Go Go.Ab
attribute [local irreducible] vc
end Go.Proofs.YtfepkhlgopjaoaaGreatDoor
-- many steps
namespace Go.Proofs.YtfepkhlgopjaoaaGreatDoor
open Go Go.Ab
attribute [local irreducible] vc
end Go.Proofs.YtfepkhlgopjaoaaGreatDoor
