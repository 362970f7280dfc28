/- A part of the proof. -/
import Derived.Test.YtbojpfpliibfbaaGreatDoorEnRS1
set_option maxHeartbeats 16000000
set_option maxRecDepth 100000
set_option linter.unusedVariables false
set_option linter.unusedSimpArgs false
-- many steps
namespace Go.Proofs.YtbojpfpliibfbaaGreatDoor
open Go Go.Ab
attribute [local irreducible] vc
def bE (k:Int)(before:List TFd):TFd->Int
 | .mk n nm nd _ d=>if bO nm=false then 12 else if inB n 1 9999=false then 2 else if before.any (ky n nm)=true then 7 else if inB nd 1 3=false then 11 else if k=10/\¬ nd=1 then 11
   else if nd=3/\d.length=0 then 4 else if 1<d.length then 3 else if ¬ nd=3/\0<d.length then 3 else 0
theorem cu (k m M s:Int)(w:List (List UInt8))(e:List Typ)(fs:List TFd)(hl:fs.length<=9000000000000)(i:Nat)(g:TFd)(hg:fs[i]? = some g) :
  am Tryz.prog az 232 [(Typ.mk k m M s w e fs).pv,.int .i64 (i:Int)] (.int .i64 (bE k (fs.take i) g)):=by
 obtain⟨n,nm,nd,⟨k',m',M',s',w',e',f'⟩,d⟩:=g
 have hlt:i<fs.length:=by
  rcases Nat.lt_or_ge i fs.length with h | h
  ·exact h
  ·rw[List.getElem?_eq_none h] at hg;cases hg
 have hfp:(fs.map TFd.pv)[i]? = some (TFd.mk n nm nd (.mk k' m' M' s' w' e' f') d).pv:=by simp[hg]
 have hn:=pY nm
 have hi1:=e7 n 1 9999
 have hi2:=e7 nd 1 3
 have hc:=qL n nm nd k' m' M' s' w' e' f' d (fs.take i) (by simp;omega)
 rw[List.map_take] at hc
 simp only[eV] at hc
 simp only[bE]
 generalize (fs.take i).any (ky n nm)=q at hc ⊢
 refine am.intro Po.2 (by simp[Po]) ?_
 generalize bO nm=b1 at hn ⊢
 generalize inB n 1 9999=b2 at hi1 ⊢
 generalize inB nd 1 3=b3 at hi2 ⊢
 simp(disch:=try exact dI) only[Po,Typ.pv_mk,TFd.pv_mk,hg,Option.map_some,push_cast,seval]
 refine ab.pure hn rfl ?_
 cases b1 with
 | false=>simp(disch:=try exact dI) only[push_cast,seval]
 | true=>
 refine zgZ ?_
 refine ab.pure hi1 rfl ?_
 cases b2 with
 | false=>simp(disch:=try exact dI) only[push_cast,seval]
 | true=>
 refine zgZ ?_
 refine ab.lentK hc [3] rfl qsZ qsZ ?_
 cases q with
 | true=>simp(disch:=try exact dI) only[push_cast,seval]
 | false=>
 refine zgZ ?_
 refine ab.pure hi2 rfl ?_
 cases b3 with
 | false=>simp(disch:=try exact dI) only[push_cast,seval]
 | true=>
 by_cases hk:k=10/\¬ nd=1
 ·obtain⟨hk,hnd⟩:=hk
  subst hk
  rw[if_pos (show (10:Int)=10/\¬ nd=1 from⟨rfl,hnd⟩)]
  simp(disch:=try exact dI) only[hnd,push_cast,seval]
 rw[if_neg hk]
 have hfin:∀ (x:Int),x=(if nd=3/\d.length=0 then (4:Int) else if 1<d.length then 3 else if ¬ nd=3/\0<d.length then 3 else 0)->x=4/\nd=3/\d.length=0\/x=3/\1<d.length\/x=3/\¬ nd=3/\d.length=1\/x=0/\nd=3/\d.length=1\/x=0/\¬ nd=3/\d.length=0:=by
  intro x hx
  split at hx
  ·omega
  ·split at hx
   ·omega
   ·split at hx<;>omega
 obtain⟨x,hx⟩:∃ x,x=(if nd=3/\d.length=0 then (4:Int) else if 1<d.length then 3 else if ¬ nd=3/\0<d.length then 3 else 0):=⟨_,rfl⟩
 have hc5:=hfin x hx
 rw[<- hx]
 clear hfin hx
 have hk':k=10/\nd=1\/¬ k=10:=by
  by_cases h:k=10
  ·exact .inl ⟨h,Decidable.byContradiction fun hh=>hk ⟨h,hh⟩⟩
  ·exact .inr h
 clear hk
 rcases hc5 with ⟨rfl,rfl,h0⟩ | ⟨rfl,h1⟩ | ⟨rfl,hnd,h0⟩ | ⟨rfl,rfl,h0⟩ | ⟨rfl,hnd,h0⟩
 ·rcases hk' with ⟨_,hh⟩ | hk
  ·exact absurd hh (by decide)
  ·have h0I:(d.length:Int)=0:=by omega
   simp(disch:=try exact dI) only[hk,h0I,push_cast,seval]
 ·have h0I:¬ (d.length:Int)=0:=by omega
  have h1I:(1:Int)<d.length:=by omega
  rcases hk' with ⟨rfl,rfl⟩ | hk
  ·simp(disch:=try exact dI) only[h0I,h1I,push_cast,seval]
  ·by_cases hnd:nd=3
   ·simp(disch:=try exact dI) only[hk,hnd,h0I,h1I,push_cast,seval]
   ·simp(disch:=try exact dI) only[hk,hnd,h0I,h1I,push_cast,seval]
 ·have h0I:(d.length:Int)=1:=by omega
  rcases hk' with ⟨rfl,rfl⟩ | hk
  ·simp(disch:=try exact dI) only[h0I,push_cast,seval]
  ·simp(disch:=try exact dI) only[hk,hnd,h0I,push_cast,seval]
 ·have h0I:(d.length:Int)=1:=by omega
  rcases hk' with ⟨_,hh⟩ | hk
  ·exact absurd hh (by decide)
  ·simp(disch:=try exact dI) only[hk,h0I,push_cast,seval]
 ·have h0I:(d.length:Int)=0:=by omega
  rcases hk' with ⟨rfl,rfl⟩ | hk
  ·simp(disch:=try exact dI) only[h0I,push_cast,seval]
  ·simp(disch:=try exact dI) only[hk,hnd,h0I,push_cast,seval]
end Go.Proofs.YtbojpfpliibfbaaGreatDoor
