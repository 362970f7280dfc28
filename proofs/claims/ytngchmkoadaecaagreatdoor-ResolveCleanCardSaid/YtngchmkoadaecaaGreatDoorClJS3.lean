/- A part. -/
import Derived.Test.YtngchmkoadaecaaGreatDoorClJS1
set_option linter.unusedVariables false
set_option linter.unusedSimpArgs false
set_option maxHeartbeats 16000000
set_option maxRecDepth 100000
namespace Go.Proofs.YtngchmkoadaecaaGreatDoor
open Go Go.Ab
attribute [local irreducible] vc
def tf (n:Int)(nm:List UInt8)(g:TFd):Bool:=decide (g.name=nm)||decide (g.number=n)
def eJ (n:Int)(nm:List UInt8)(nd k m M s:Int)(w:List (List UInt8))(e:List Typ)(fs:List TFd)(d:List Val):List AV:=
 [.pv (.int .i64 n),.pv (.str nm),.pv (.int .i64 nd),.pv (.int .i64 k),.pv (.int .i64 m),.pv (.int .i64 M),.pv (.int .i64 s),.pv (.list (w.map PV.str)),.pv (.list (e.map Typ.pv)),.pv (.list (fs.map TFd.pv)),.pv (.list (d.map Val.pv))]
section
variable (n:Int)(nm:List UInt8)(nd k m M s:Int)(w:List (List UInt8))(e:List Typ)(fs:List TFd)(d:List Val)
theorem Po (g:TFd):bA Tryz.prog aB 1 155 [.pv g.pv,.ptr 0 0] [.cells 105 true (eJ n nm nd k m M s w e fs d)] (.pv (.bool (tf n nm g))) [.cells 105 true (eJ n nm nd k m M s w e fs d)]:=by
 obtain⟨n',nm',nd',⟨k',m',M',s',w',e',fs'⟩,d'⟩:=g
 by_cases h1:nm'=nm
 ·rw[show tf n nm (TFd.mk n' nm' nd' (Typ.mk k' m' M' s' w' e' fs') d')=true by simp[tf,TFd.name,h1]]
  refine bA.intro If.2 (by simp[If]) ?_
  simp(maxSteps:=9^7) (disch:=try exact dI) only[If,Uh,Um,h1,eJ,push_cast,seval]
  exact aI [] qsZ
 ·by_cases h2:n'=n
  ·rw[show tf n nm (TFd.mk n' nm' nd' (Typ.mk k' m' M' s' w' e' fs') d')=true by simp[tf,TFd.number,h2]]
   refine bA.intro If.2 (by simp[If]) ?_
   simp(maxSteps:=9^7) (disch:=try exact dI) only[If,Uh,Um,h1,h2,eJ,push_cast,seval]
   exact aI [] qsZ
  ·rw[show tf n nm (TFd.mk n' nm' nd' (Typ.mk k' m' M' s' w' e' fs') d')=false by simp[tf,TFd.name,TFd.number,h1,h2]]
   refine bA.intro If.2 (by simp[If]) ?_
   simp(maxSteps:=9^7) (disch:=try exact dI) only[If,Uh,Um,h1,h2,eJ,push_cast,seval]
   exact aI [] qsZ
end
section
variable (n:Int)(nm:List UInt8)(nd k m M s:Int)(w:List (List UInt8))(e:List Typ)(fs:List TFd)(d:List Val)
theorem Cb (l:List TFd)(hl:l.length<=9000000000000) :
  bA Tryz.prog aB 1 171 [.pv (.list (l.map TFd.pv)),.clo 155 [] [.ptr 0 0]] [.cells 105 true (eJ n nm nd k m M s w e fs d)] (.pv (.int .i64 (ib (tf n nm) l 0))) [.cells 105 true (eJ n nm nd k m M s w e fs d)]:=by
 have hq:=fun x=>Po n nm nd k m M s w e fs d x
 generalize tf n nm=q at *
 simp only[eJ] at hq ⊢
 refine bA.intro Nl.2 (by simp[Nl]) ?_
 simp(maxSteps:=9^7) (disch:=try exact dI) only[Nl,push_cast,seval]
 refine aw ([]) (fun m:Nat=>[(8,.pv (.int .i64 (m:Int)))]) (fun m=>[]) (fun m=>m<=l.length/\ib q l 0=ib q (l.drop m) m) (fun m=>l.length - m) (0) ?_;intro e0 σ0 n0 h0;simp(maxSteps:=9^7) (disch:=try exact dI) only[push_cast,seval] at h0;obtain⟨rfl,rfl,rfl⟩:=h0;refine⟨?_,?_,?_⟩
 ·simp(maxSteps:=9^7) (disch:=try exact dI) only[push_cast,seval]
 ·exact⟨by omega,by simp⟩
 ·rintro m ⟨hm,he⟩
  by_cases hlt:m<l.length
  ·have hltI:(m:Int)<l.length:=by omega
   obtain⟨x,hx⟩:∃ x,l[m]? = some x:=⟨_,List.getElem?_eq_getElem hlt⟩
   have hcall:=hq x
   simp(maxSteps:=9^7) (disch:=try exact dI) only[hx,TFd.cells_len,TFd.isAgg,push_cast,seval]
   refine ab.lentK hcall [0] rfl qsZ qsZ ?_
   cases hqx:q x with
   | true=>
     rw[he,jP hx hqx]
     simp(maxSteps:=9^7) (disch:=try exact dI) only[push_cast,seval]
     exact aI [] qsZ
   | false=>
     rw[gA hx hqx] at he
     simp(maxSteps:=9^7) (disch:=try exact dI) only[push_cast,seval]
     exact⟨m+1,aN qsZ,⟨by omega,he⟩,by omega⟩
  ·have hltI:¬ (m:Int)<l.length:=by omega
   rw[he,jQ hlt]
   simp(maxSteps:=9^7) (disch:=try exact dI) only[push_cast,seval]
   exact aI [] qsZ
theorem rF (l:List TFd)(hl:l.length<=9000000000000) :
  bA Tryz.prog aB 1 154 [.pv (.list (l.map TFd.pv)),.clo 155 [] [.ptr 0 0]] [.cells 105 true (eJ n nm nd k m M s w e fs d)] (.pv (.bool (l.any (tf n nm)))) [.cells 105 true (eJ n nm nd k m M s w e fs d)]:=by
 have h94:=Cb n nm nd k m M s w e fs d l hl
 have hfa:=i6 (p:=tf n nm) l
 simp only[eJ] at h94 ⊢
 refine bA.intro Jc.2 (by simp[Jc]) ?_
 rcases er (p:=tf n nm) l 0 with ⟨h1,h2⟩ | ⟨k,x,h1,h2,h3⟩
 ·rw[h2] at h94
  rw[h1] at hfa
  rw[<- hfa]
  simp(maxSteps:=9^7) (disch:=try exact dI) only[Jc,push_cast,seval]
  refine ab.lentK h94 [0] rfl qsZ qsZ ?_
  simp(maxSteps:=9^7) (disch:=try exact dI) only[push_cast,seval]
  exact aI [] (by simp(maxSteps:=9^7) (disch:=try exact dI) only[Option.isSome_none,push_cast,seval])
 ·rw[h3] at h94
  rw[h2] at hfa
  rw[<- hfa]
  have hk:(0:Int)<=((0+k:Nat):Int):=by omega
  generalize ((0+k:Nat):Int)=z at *
  simp(maxSteps:=9^7) (disch:=try exact dI) only[Jc,push_cast,seval]
  refine ab.lentK h94 [0] rfl qsZ qsZ ?_
  simp(maxSteps:=9^7) (disch:=try exact dI) only[push_cast,seval]
  exact aI [] (by simp(maxSteps:=9^7) (disch:=try exact dI) only[Option.isSome_some,push_cast,seval])
end
def e9 (k:Int)(before:List TFd):TFd->Int
 | .mk n nm nd _ d=>if aE nm=false then 12 else if inB n 1 9999=false then 2 else if before.any (tf n nm)=true then 7 else if inB nd 1 3=false then 11 else if k=10/\¬ nd=1 then 11
   else if nd=3/\d.length=0 then 4 else if 1<d.length then 3 else if ¬ nd=3/\0<d.length then 3 else 0
theorem Hp (k m M s:Int)(w:List (List UInt8))(e:List Typ)(fs:List TFd)(hl:fs.length<=9000000000000)(i:Nat)(g:TFd)(hg:fs[i]? = some g) :
  ap Tryz.prog aB 143 [(Typ.mk k m M s w e fs).pv,.int .i64 (i:Int)] (.int .i64 (e9 k (fs.take i) g)):=by
 obtain⟨n,nm,nd,⟨k',m',M',s',w',e',f'⟩,d⟩:=g
 have hlt:i<fs.length:=by
  rcases Nat.lt_or_ge i fs.length with h | h
  ·exact h
  ·rw[List.getElem?_eq_none h] at hg;cases hg
 have hfp:(fs.map TFd.pv)[i]? = some (TFd.mk n nm nd (.mk k' m' M' s' w' e' f') d).pv:=by simp[hg]
 have hn:=me nm
 have hi1:=mr n 1 9999
 have hi2:=mr nd 1 3
 have hc:=rF n nm nd k' m' M' s' w' e' f' d (fs.take i) (by simp;omega)
 rw[List.map_take] at hc
 simp only[eJ] at hc
 simp only[e9]
 generalize (fs.take i).any (tf n nm)=q at hc ⊢
 refine ap.intro SW.2 (by simp[SW]) ?_
 generalize aE nm=b1 at hn ⊢
 generalize inB n 1 9999=b2 at hi1 ⊢
 generalize inB nd 1 3=b3 at hi2 ⊢
 simp(maxSteps:=9^7) (disch:=try exact dI) only[SW,Um,Uh,hg,Option.map_some,push_cast,seval]
 refine ab.pure hn rfl ?_
 cases b1 with
 | false=>simp(maxSteps:=9^7) (disch:=try exact dI) only[push_cast,seval]
 | true=>
 simp(maxSteps:=9^7) (disch:=try exact dI) only[push_cast,seval]
 refine ab.pure hi1 rfl ?_
 cases b2 with
 | false=>simp(maxSteps:=9^7) (disch:=try exact dI) only[push_cast,seval]
 | true=>
 simp(maxSteps:=9^7) (disch:=try exact dI) only[push_cast,seval]
 refine ab.lentK hc [3] rfl qsZ qsZ ?_
 cases q with
 | true=>simp(maxSteps:=9^7) (disch:=try exact dI) only[push_cast,seval]
 | false=>
 simp(maxSteps:=9^7) (disch:=try exact dI) only[push_cast,seval]
 refine ab.pure hi2 rfl ?_
 cases b3 with
 | false=>simp(maxSteps:=9^7) (disch:=try exact dI) only[push_cast,seval]
 | true=>
 by_cases hk:k=10/\¬ nd=1
 ·obtain⟨hk,hnd⟩:=hk
  subst hk
  rw[if_pos (show (10:Int)=10/\¬ nd=1 from⟨rfl,hnd⟩)]
  simp(maxSteps:=9^7) (disch:=try exact dI) only[hnd,push_cast,seval]
 rw[if_neg hk]
 have hfin:∀ (x:Int),x=(if nd=3/\d.length=0 then (4:Int) else if 1<d.length then 3 else if ¬ nd=3/\0<d.length then 3 else 0)->x=4/\nd=3/\d.length=0\/x=3/\1<d.length\/x=3/\¬ nd=3/\d.length=1\/x=0/\nd=3/\d.length=1\/x=0/\¬ nd=3/\d.length=0:=by
  intro x hx
  split at hx
  ·omega
  ·split at hx
   ·omega
   ·split at hx<;>omega
 obtain⟨x,hx⟩:∃ x,x=(if nd=3/\d.length=0 then (4:Int) else if 1<d.length then 3 else if ¬ nd=3/\0<d.length then 3 else 0):=⟨_,rfl⟩
 have hc5:=hfin x hx
 rw[<- hx]
 clear hfin hx
 have hk':k=10/\nd=1\/¬ k=10:=by
  by_cases h:k=10
  ·exact .inl ⟨h,Decidable.byContradiction fun hh=>hk ⟨h,hh⟩⟩
  ·exact .inr h
 clear hk
 rcases hc5 with ⟨rfl,rfl,h0⟩ | ⟨rfl,h1⟩ | ⟨rfl,hnd,h0⟩ | ⟨rfl,rfl,h0⟩ | ⟨rfl,hnd,h0⟩
 ·rcases hk' with ⟨_,hh⟩ | hk
  ·exact absurd hh (by decide)
  ·have h0I:(d.length:Int)=0:=by omega
   simp(maxSteps:=9^7) (disch:=try exact dI) only[hk,h0I,push_cast,seval]
 ·have h0I:¬ (d.length:Int)=0:=by omega
  have h1I:(1:Int)<d.length:=by omega
  rcases hk' with ⟨rfl,rfl⟩ | hk
  ·simp(maxSteps:=9^7) (disch:=try exact dI) only[h0I,h1I,push_cast,seval]
  ·by_cases hnd:nd=3
   ·simp(maxSteps:=9^7) (disch:=try exact dI) only[hk,hnd,h0I,h1I,push_cast,seval]
   ·simp(maxSteps:=9^7) (disch:=try exact dI) only[hk,hnd,h0I,h1I,push_cast,seval]
 ·have h0I:(d.length:Int)=1:=by omega
  rcases hk' with ⟨rfl,rfl⟩ | hk
  ·simp(maxSteps:=9^7) (disch:=try exact dI) only[h0I,push_cast,seval]
  ·simp(maxSteps:=9^7) (disch:=try exact dI) only[hk,hnd,h0I,push_cast,seval]
 ·have h0I:(d.length:Int)=1:=by omega
  rcases hk' with ⟨_,hh⟩ | hk
  ·exact absurd hh (by decide)
  ·simp(maxSteps:=9^7) (disch:=try exact dI) only[hk,h0I,push_cast,seval]
 ·have h0I:(d.length:Int)=0:=by omega
  rcases hk' with ⟨rfl,rfl⟩ | hk
  ·simp(maxSteps:=9^7) (disch:=try exact dI) only[h0I,push_cast,seval]
  ·simp(maxSteps:=9^7) (disch:=try exact dI) only[hk,hnd,h0I,push_cast,seval]
