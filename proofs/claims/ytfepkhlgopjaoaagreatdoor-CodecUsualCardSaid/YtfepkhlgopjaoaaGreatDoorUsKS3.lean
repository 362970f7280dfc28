/- A part of the proof for CodecUsualCardSaid. -/
import Derived.Test.YtfepkhlgopjaoaaGreatDoorUsKS1
import Derived.Test.YtfepkhlgopjaoaaGreatDoorUsKR2
set_option linter.unusedVariables false
set_option linter.unusedSimpArgs false
set_option maxRecDepth 100000
-- many steps
namespace Go.Proofs.YtfepkhlgopjaoaaGreatDoor
open Go Go.Ab
attribute [local irreducible] vc
def ph (n:Int)(nm:List UInt8)(g:TFd):Bool:=decide (g.name=nm)||decide (g.number=n)
def dh (n:Int)(nm:List UInt8)(nd k m M s:Int)(w:List (List UInt8))(e:List Typ)(fs:List TFd)(d:List Val):List AV:=
 [.pv (.int .i64 n),.pv (.str nm),.pv (.int .i64 nd),.pv (.int .i64 k),.pv (.int .i64 m),.pv (.int .i64 M),.pv (.int .i64 s),.pv (.list (w.map PV.str)),.pv (.list (e.map Typ.pv)),.pv (.list (fs.map TFd.pv)),.pv (.list (d.map Val.pv))]
section
variable (n:Int)(nm:List UInt8)(nd k m M s:Int)(w:List (List UInt8))(e:List Typ)(fs:List TFd)(d:List Val)
theorem J7 (g:TFd):cq Tryz.prog az 1 309 [.pv g.pv,.ptr 0 0] [.cells 89 true (dh n nm nd k m M s w e fs d)] (.pv (.bool (ph n nm g))) [.cells 89 true (dh n nm nd k m M s w e fs d)]:=by
 obtain⟨n',nm',nd',⟨k',m',M',s',w',e',fs'⟩,d'⟩:=g
 by_cases h1:nm'=nm
 ·rw[show ph n nm (TFd.mk n' nm' nd' (Typ.mk k' m' M' s' w' e' fs') d')=true by simp[ph,TFd.name,h1]]
  refine cq.intro oh (by simp[HA]) ?_
  simp(maxSteps:=9^7) (disch:=try exact dI) only[HA,TFd.pv_mk,Typ.pv_mk,h1,dh,push_cast,seval]
  exact aL [] qsZ
 ·by_cases h2:n'=n
  ·rw[show ph n nm (TFd.mk n' nm' nd' (Typ.mk k' m' M' s' w' e' fs') d')=true by simp[ph,TFd.number,h2]]
   refine cq.intro oh (by simp[HA]) ?_
   simp(maxSteps:=9^7) (disch:=try exact dI) only[HA,TFd.pv_mk,Typ.pv_mk,h1,h2,dh,push_cast,seval]
   exact aL [] qsZ
  ·rw[show ph n nm (TFd.mk n' nm' nd' (Typ.mk k' m' M' s' w' e' fs') d')=false by simp[ph,TFd.name,TFd.number,h1,h2]]
   refine cq.intro oh (by simp[HA]) ?_
   simp(maxSteps:=9^7) (disch:=try exact dI) only[HA,TFd.pv_mk,Typ.pv_mk,h1,h2,dh,push_cast,seval]
   exact aL [] qsZ
end
section
variable (n:Int)(nm:List UInt8)(nd k m M s:Int)(w:List (List UInt8))(e:List Typ)(fs:List TFd)(d:List Val)
theorem w9 (l:List TFd)(hl:l.length≤9000000000000) :
  cq Tryz.prog az 1 180 [.pv (.list (l.map TFd.pv)),.clo 309 [] [.ptr 0 0]] [.cells 89 true (dh n nm nd k m M s w e fs d)] (.pv (.int .i64 (dq (ph n nm) l 0))) [.cells 89 true (dh n nm nd k m M s w e fs d)]:=by
 have hq:=fun x=>J7 n nm nd k m M s w e fs d x
 generalize ph n nm=q at *
 simp only[dh] at hq ⊢
 refine cq.intro zq (by simp[LF]) ?_
 simp(maxSteps:=9^7) (disch:=try exact dI) only[LF,push_cast,seval]
 refine aB ([]) (fun m:Nat=>[(8,.pv (.int .i64 (m:Int)))]) (fun m=>[]) (fun m=>m≤l.length∧dq q l 0=dq q (l.drop m) m) (fun m=>l.length - m) (0) ?_;intro e0 σ0 n0 h0;simp(maxSteps:=9^7) (disch:=try exact dI) only[push_cast,seval] at h0;obtain⟨rfl,rfl,rfl⟩:=h0;refine⟨?_,?_,?_⟩
 ·simp(maxSteps:=9^7) (disch:=try exact dI) only[push_cast,seval]
 ·exact⟨by omega,by simp⟩
 ·rintro m ⟨hm,he⟩
  by_cases hlt:m<l.length
  ·have hltI:(m:Int)<l.length:=by omega
   obtain⟨x,hx⟩:∃ x,l[m]? = some x:=⟨_,List.getElem?_eq_getElem hlt⟩
   have hcall:=hq x
   simp(maxSteps:=9^7) (disch:=try exact dI) only[hx,TFd.cells_len,TFd.isAgg,push_cast,seval]
   refine ae.lentK hcall [0] rfl qsZ qsZ ?_
   cases hqx:q x with
   | true=>
     rw[he,dA hx hqx]
     simp(maxSteps:=9^7) (disch:=try exact dI) only[push_cast,seval]
     exact aL [] qsZ
   | false=>
     rw[cg hx hqx] at he
     simp(maxSteps:=9^7) (disch:=try exact dI) only[push_cast,seval]
     exact⟨m+1,bH qsZ,⟨by omega,he⟩,by omega⟩
  ·have hltI:¬ (m:Int)<l.length:=by omega
   rw[he,dB hlt]
   simp(maxSteps:=9^7) (disch:=try exact dI) only[push_cast,seval]
   exact aL [] qsZ
theorem nW (l:List TFd)(hl:l.length≤9000000000000) :
  cq Tryz.prog az 1 103 [.pv (.list (l.map TFd.pv)),.clo 309 [] [.ptr 0 0]] [.cells 89 true (dh n nm nd k m M s w e fs d)] (.pv (.bool (l.any (ph n nm)))) [.cells 89 true (dh n nm nd k m M s w e fs d)]:=by
 have h94:=w9 n nm nd k m M s w e fs d l hl
 have hfa:=cQ (p:=ph n nm) l
 simp only[dh] at h94 ⊢
 refine cq.intro zu (by simp[Ik]) ?_
 rcases bv (p:=ph n nm) l 0 with ⟨h1,h2⟩ | ⟨k,x,h1,h2,h3⟩
 ·rw[h2] at h94
  rw[h1] at hfa
  rw[← hfa]
  simp(maxSteps:=9^7) (disch:=try exact dI) only[Ik,push_cast,seval]
  refine ae.lentK h94 [0] rfl qsZ qsZ ?_
  simp(maxSteps:=9^7) (disch:=try exact dI) only[push_cast,seval]
  exact aL [] (by simp(maxSteps:=9^7) (disch:=try exact dI) only[Option.isSome_none,push_cast,seval])
 ·rw[h3] at h94
  rw[h2] at hfa
  rw[← hfa]
  have hk:(0:Int)≤((0+k:Nat):Int):=by omega
  generalize ((0+k:Nat):Int)=z at *
  simp(maxSteps:=9^7) (disch:=try exact dI) only[Ik,push_cast,seval]
  refine ae.lentK h94 [0] rfl qsZ qsZ ?_
  simp(maxSteps:=9^7) (disch:=try exact dI) only[push_cast,seval]
  exact aL [] (by simp(maxSteps:=9^7) (disch:=try exact dI) only[Option.isSome_some,push_cast,seval])
end
end Go.Proofs.YtfepkhlgopjaoaaGreatDoor
-- many steps
namespace Go.Proofs.YtfepkhlgopjaoaaGreatDoor
open Go Go.Ab
attribute [local irreducible] vc
def dC (k:Int)(before:List TFd):TFd→Int
 | .mk n nm nd _ d=>if ct nm=false then 12 else if inB n 1 9999=false then 2 else if before.any (ph n nm)=true then 7 else if inB nd 1 3=false then 11 else if k=10∧¬ nd=1 then 11
   else if nd=3∧d.length=0 then 4 else if 1<d.length then 3 else if ¬ nd=3∧0<d.length then 3 else 0
set_option maxHeartbeats 4000000 in
theorem CJ (k m M s:Int)(w:List (List UInt8))(e:List Typ)(fs:List TFd)(hl:fs.length≤9000000000000)(i:Nat)(g:TFd)(hg:fs[i]? = some g) :
  ap Tryz.prog az 234 [(Typ.mk k m M s w e fs).pv,.int .i64 (i:Int)] (.int .i64 (dC k (fs.take i) g)):=by
 obtain⟨n,nm,nd,⟨k',m',M',s',w',e',f'⟩,d⟩:=g
 have hlt:i<fs.length:=by
  rcases Nat.lt_or_ge i fs.length with h | h
  ·exact h
  ·rw[List.getElem?_eq_none h] at hg;cases hg
 have hfp:(fs.map TFd.pv)[i]? = some (TFd.mk n nm nd (.mk k' m' M' s' w' e' f') d).pv:=by simp[hg]
 have hn:=jx nm
 have hi1:=jI n 1 9999
 have hi2:=jI nd 1 3
 have hc:=nW n nm nd k' m' M' s' w' e' f' d (fs.take i) (by simp;omega)
 rw[List.map_take] at hc
 simp only[dh] at hc
 simp only[dC]
 generalize (fs.take i).any (ph n nm)=q at hc ⊢
 refine ap.intro HE (by simp[Nn]) ?_
 generalize ct nm=b1 at hn ⊢
 generalize inB n 1 9999=b2 at hi1 ⊢
 generalize inB nd 1 3=b3 at hi2 ⊢
 simp(maxSteps:=9^7) (disch:=try exact dI) only[Nn,Typ.pv_mk,TFd.pv_mk,hg,Option.map_some,push_cast,seval]
 refine ae.pure hn rfl ?_
 cases b1 with
 | false=>simp(maxSteps:=9^7) (disch:=try exact dI) only[push_cast,seval]
 | true=>
 simp(maxSteps:=9^7) (disch:=try exact dI) only[push_cast,seval]
 refine ae.pure hi1 rfl ?_
 cases b2 with
 | false=>simp(maxSteps:=9^7) (disch:=try exact dI) only[push_cast,seval]
 | true=>
 simp(maxSteps:=9^7) (disch:=try exact dI) only[push_cast,seval]
 refine ae.lentK hc [3] rfl qsZ qsZ ?_
 cases q with
 | true=>simp(maxSteps:=9^7) (disch:=try exact dI) only[push_cast,seval]
 | false=>
 simp(maxSteps:=9^7) (disch:=try exact dI) only[push_cast,seval]
 refine ae.pure hi2 rfl ?_
 cases b3 with
 | false=>simp(maxSteps:=9^7) (disch:=try exact dI) only[push_cast,seval]
 | true=>
 by_cases hk:k=10∧¬ nd=1
 ·obtain⟨hk,hnd⟩:=hk
  subst hk
  rw[if_pos (show (10:Int)=10∧¬ nd=1 from⟨rfl,hnd⟩)]
  simp(maxSteps:=9^7) (disch:=try exact dI) only[hnd,push_cast,seval]
 rw[if_neg hk]
 have hfin:∀ (x:Int),x=(if nd=3∧d.length=0 then (4:Int) else if 1<d.length then 3 else if ¬ nd=3∧0<d.length then 3 else 0)→x=4∧nd=3∧d.length=0∨x=3∧1<d.length∨x=3∧¬ nd=3∧d.length=1∨x=0∧nd=3∧d.length=1∨x=0∧¬ nd=3∧d.length=0:=by
  intro x hx
  split at hx
  ·omega
  ·split at hx
   ·omega
   ·split at hx<;>omega
 obtain⟨x,hx⟩:∃ x,x=(if nd=3∧d.length=0 then (4:Int) else if 1<d.length then 3 else if ¬ nd=3∧0<d.length then 3 else 0):=⟨_,rfl⟩
 have hc5:=hfin x hx
 rw[← hx]
 clear hfin hx
 have hk':k=10∧nd=1∨¬ k=10:=by
  by_cases h:k=10
  ·exact .inl ⟨h,Decidable.byContradiction fun hh=>hk ⟨h,hh⟩⟩
  ·exact .inr h
 clear hk
 rcases hc5 with ⟨rfl,rfl,h0⟩ | ⟨rfl,h1⟩ | ⟨rfl,hnd,h0⟩ | ⟨rfl,rfl,h0⟩ | ⟨rfl,hnd,h0⟩
 ·rcases hk' with ⟨_,hh⟩ | hk
  ·exact absurd hh (by decide)
  ·have h0I:(d.length:Int)=0:=by omega
   simp(maxSteps:=9^7) (disch:=try exact dI) only[hk,h0I,push_cast,seval]
 ·have h0I:¬ (d.length:Int)=0:=by omega
  have h1I:(1:Int)<d.length:=by omega
  rcases hk' with ⟨rfl,rfl⟩ | hk
  ·simp(maxSteps:=9^7) (disch:=try exact dI) only[h0I,h1I,push_cast,seval]
  ·by_cases hnd:nd=3
   ·simp(maxSteps:=9^7) (disch:=try exact dI) only[hk,hnd,h0I,h1I,push_cast,seval]
   ·simp(maxSteps:=9^7) (disch:=try exact dI) only[hk,hnd,h0I,h1I,push_cast,seval]
 ·have h0I:(d.length:Int)=1:=by omega
  rcases hk' with ⟨rfl,rfl⟩ | hk
  ·simp(maxSteps:=9^7) (disch:=try exact dI) only[h0I,push_cast,seval]
  ·simp(maxSteps:=9^7) (disch:=try exact dI) only[hk,hnd,h0I,push_cast,seval]
 ·have h0I:(d.length:Int)=1:=by omega
  rcases hk' with ⟨_,hh⟩ | hk
  ·exact absurd hh (by decide)
  ·simp(maxSteps:=9^7) (disch:=try exact dI) only[hk,h0I,push_cast,seval]
 ·have h0I:(d.length:Int)=0:=by omega
  rcases hk' with ⟨rfl,rfl⟩ | hk
  ·simp(maxSteps:=9^7) (disch:=try exact dI) only[h0I,push_cast,seval]
  ·simp(maxSteps:=9^7) (disch:=try exact dI) only[hk,hnd,h0I,push_cast,seval]
end Go.Proofs.YtfepkhlgopjaoaaGreatDoor
