/- A part of the proof for DelimitedRepresentableCardSaid. -/
import Derived.Test.YtbaaokocnegdoaaGreatDoorRepVUh
import Derived.Test.YtbaaokocnegdoaaGreatDoorRepVSh
import Derived.Test.YtbaaokocnegdoaaGreatDoorCore6
import Derived.Test.YtbaaokocnegdoaaGreatDoorCore5
import Derived.Test.YtbaaokocnegdoaaGreatDoorRepF
import Derived.Shelf.LaysM
import Derived.Shelf.Strconv.Atoi
import Derived.Shelf.Strconv.AtoiErr
import Derived.Test.YtbaaokocnegdoaaGreatDoorProg
set_option maxRecDepth 100000
set_option linter.unusedVariables false
set_option linter.unusedSimpArgs false
-- many steps
namespace Go.Proofs.YtbaaokocnegdoaaGreatDoor
open Go Go.Ab
attribute [local irreducible] vc
end Go.Proofs.YtbaaokocnegdoaaGreatDoor
set_option maxRecDepth 100000
set_option linter.unusedVariables false
set_option linter.unusedSimpArgs false
-- many steps
namespace Go.Proofs.YtbaaokocnegdoaaGreatDoor
open Go Go.Ab
open Nat renaming reduceEqDiff→qa,reduceAdd→qb,reduceMul→qc,reduceLeDiff→qd,reduceLT→qe,reduceBEq→qf,reduceSub→qg
open Int renaming reduceToNat→qh,reduceNeg→qi
attribute [local irreducible] vc
end Go.Proofs.YtbaaokocnegdoaaGreatDoor
set_option maxRecDepth 100000
set_option linter.unusedVariables false
set_option linter.unusedSimpArgs false
-- many steps
namespace Go.Proofs.YtbaaokocnegdoaaGreatDoor
open Go Go.Ab
attribute [local irreducible] vc
end Go.Proofs.YtbaaokocnegdoaaGreatDoor
set_option maxRecDepth 100000
set_option linter.unusedVariables false
set_option linter.unusedSimpArgs false
-- many steps
namespace Go.Proofs.YtbaaokocnegdoaaGreatDoor
open Go Go.Ab
open Nat renaming reduceEqDiff→qa,reduceAdd→qb,reduceMul→qc,reduceLeDiff→qd,reduceLT→qe,reduceBEq→qf,reduceSub→qg
open Int renaming reduceToNat→qh,reduceNeg→qi
attribute [local irreducible] vc
end Go.Proofs.YtbaaokocnegdoaaGreatDoor
set_option linter.unusedVariables false
set_option linter.unusedSimpArgs false
namespace Go.Ab
open Go
abbrev Cel:=List UInt8×Bool
inductive Out where
 | err (o:Nat) (e:Int)
 | ok (c:Cel) (a:Nat)
inductive Res where
 | err (o:Nat) (e:Int)
 | ok (c:List Cel) (p:List Nat)
end Go.Ab
set_option maxRecDepth 100000
set_option linter.unusedVariables false
set_option linter.unusedSimpArgs false
namespace Go.Proofs.YtbaaokocnegdoaaGreatDoor
open Go Go.Ab
attribute [local irreducible] vc
def aB:Bool→AV
 | true=>.ptr 0 0
 | false=>.pv .nilp
def bB (t:Bool):List UInt8→List Blk
 | []=>[.cells 89 true [aB t,.pv .nils]]
 | b::r=>[.cells 89 true [aB t,.row 1 1 0 (r.length+1)],.cells 5 false ((aR (b::r)).map .pv)]
theorem copyB (t:Bool)(l:List UInt8):bM Tryz.prog aE 1 90 [.ptr 0 0] (bB t l) (.pv (.tup [])) (bB true l):=by
 refine bM.intro GK (by simp[F90]) ?_
 cases l with
 | nil=>
   cases t with
   | true=>
     simp(disch:=first|exact dI|fail) only[F90,bB,aB,push_cast,seval]
     exact aJ [] (by simp(disch:=first|exact dI|fail) only[push_cast,seval])
   | false=>
     simp(disch:=first|exact dI|fail) only[F90,bB,aB,push_cast,seval]
     exact aJ [] (by simp(disch:=first|exact dI|fail) only[push_cast,seval])
 | cons b r=>
   cases t with
   | true=>
     simp(disch:=first|exact dI|fail) only[F90,bB,aB,push_cast,seval]
     exact aJ [] (by simp(disch:=first|exact dI|fail) only[push_cast,seval])
   | false=>
     simp(disch:=first|exact dI|fail) only[F90,bB,aB,push_cast,seval]
     exact aJ [] (by simp(disch:=first|exact dI|fail) only[push_cast,seval])
end Go.Proofs.YtbaaokocnegdoaaGreatDoor
set_option maxRecDepth 100000
set_option linter.unusedVariables false
set_option linter.unusedSimpArgs false
namespace Go.Proofs.YtbaaokocnegdoaaGreatDoor
open Go Go.Ab
open Nat renaming reduceEqDiff→qa,reduceAdd→qb,reduceMul→qc,reduceLeDiff→qd,reduceLT→qe,reduceBEq→qf,reduceSub→qg
open Int renaming reduceToNat→qh,reduceNeg→qi
attribute [local irreducible] vc
structure Sx where
 pos:Nat
 cells:List Cel
 places:List Nat
 wrong:Nat
 e:Int
end Go.Proofs.YtbaaokocnegdoaaGreatDoor
set_option maxRecDepth 100000
set_option linter.unusedVariables false
set_option linter.unusedSimpArgs false
-- many steps
namespace Go.Proofs.YtbaaokocnegdoaaGreatDoor
open Go Go.Ab
attribute [local irreducible] vc
def isD (c:UInt8):Bool:=decide (48≤c.toNat)&&decide (c.toNat≤57)
def Mt:Int→List UInt8→Int
 | n,[]=>n
 | n,c::r=>Mt (10*n+((c.toNat:Int) - 48)) r
def P2 (k:Nat)(s:List UInt8):Option (Int×List UInt8):=if k≤s.length∧(s.take k).all isD=true then some (Mt 0 (s.take k),s.drop k) else none
end Go.Proofs.YtbaaokocnegdoaaGreatDoor
set_option maxRecDepth 100000
set_option linter.unusedVariables false
set_option linter.unusedSimpArgs false
-- many steps
namespace Go.Proofs.YtbaaokocnegdoaaGreatDoor
open Go Go.Ab
attribute [local irreducible] vc
def P1 (p s:List UInt8):Bool:=decide (s.take p.length=p∧p.length≤s.length)
def LZ:List (List UInt8)→List Nat→List UInt8→Option (List Int×List UInt8)
 | [],_,s=>some ([],s)
 | _::_,[],_=>none
 | m::ms,k::ks,s=>if P1 m s=true then (match P2 k (s.drop m.length) with
   | some p=>(LZ ms ks p.2).map fun q=>(p.1::q.1,q.2)
   | none=>none) else none
end Go.Proofs.YtbaaokocnegdoaaGreatDoor
set_option maxRecDepth 100000
set_option linter.unusedVariables false
set_option linter.unusedSimpArgs false
-- many steps
namespace Go.Proofs.YtbaaokocnegdoaaGreatDoor
open Go Go.Ab
attribute [local irreducible] vc
def PM (y m d:Int):Int×Int:=if 1≤y∧y≤9999∧1≤m∧m≤12∧1≤d∧d≤mdI y m then (P8 y m.toNat d - 719162,0) else (0,17)
def LM (s:List UInt8):Int×Int:=
 match LZ [[],[45],[45]] [4,2,2] s with
 | some ([y,m,d],[])=>PM y m d
 | _=>(0,13)
end Go.Proofs.YtbaaokocnegdoaaGreatDoor
set_option maxRecDepth 100000
set_option linter.unusedVariables false
set_option linter.unusedSimpArgs false
-- many steps
namespace Go.Proofs.YtbaaokocnegdoaaGreatDoor
open Go Go.Ab
attribute [local irreducible] vc
end Go.Proofs.YtbaaokocnegdoaaGreatDoor
set_option maxRecDepth 100000
set_option linter.unusedVariables false
set_option linter.unusedSimpArgs false
-- many steps
namespace Go.Proofs.YtbaaokocnegdoaaGreatDoor
open Go Go.Ab
attribute [local irreducible] vc
end Go.Proofs.YtbaaokocnegdoaaGreatDoor
set_option maxRecDepth 100000
set_option linter.unusedVariables false
set_option linter.unusedSimpArgs false
-- many steps
namespace Go.Proofs.YtbaaokocnegdoaaGreatDoor
open Go Go.Ab
attribute [local irreducible] vc
end Go.Proofs.YtbaaokocnegdoaaGreatDoor
set_option maxRecDepth 100000
set_option linter.unusedVariables false
set_option linter.unusedSimpArgs false
-- many steps
namespace Go.Proofs.YtbaaokocnegdoaaGreatDoor
open Go Go.Ab
attribute [local irreducible] vc
structure NumsT (s:List UInt8)(y m d h mi sec:Int):Prop where
 len:19≤s.length
 day:LM (s.take 10)=PM y m d
 h1:((s.drop 11).take 2).all isD=true
 h2:h=Mt 0 ((s.drop 11).take 2)
 m1:((s.drop 14).take 2).all isD=true
 m2:mi=Mt 0 ((s.drop 14).take 2)
 s1:((s.drop 17).take 2).all isD=true
 s2:sec=Mt 0 ((s.drop 17).take 2)
end Go.Proofs.YtbaaokocnegdoaaGreatDoor
set_option maxRecDepth 100000
set_option linter.unusedVariables false
set_option linter.unusedSimpArgs false
-- many steps
namespace Go.Proofs.YtbaaokocnegdoaaGreatDoor
open Go Go.Ab
attribute [local irreducible] vc
end Go.Proofs.YtbaaokocnegdoaaGreatDoor
set_option maxRecDepth 100000
set_option linter.unusedVariables false
set_option linter.unusedSimpArgs false
namespace Go.Proofs.YtbaaokocnegdoaaGreatDoor
open Go Go.Ab
attribute [local irreducible] vc
def dj:Nat→Nat→List UInt8
 | 0,_=>[]
 | k+1,n=>dj k (n / 10)++[UInt8.ofNat (48+n % 10)]
theorem iy:∀ (k n:Nat),(dj k n).length=k
 | 0,_=>rfl
 | k+1,n=>by simp[dj,iy k]
theorem mH:∀ k:Nat,dj k 0=List.replicate k 48
 | 0=>rfl
 | k+1=>by rw[dj,show 0 / 10=0 from rfl,mH k,List.replicate_succ'];rfl
theorem jI:∀ (k f n:Nat),n<10 ^ f→n<10 ^ (k+1)→0<f→List.replicate (k+1 - (db f n).length) 48++db f n=dj (k+1) n
 | k,0,n,_,_,h=>absurd h (by omega)
 | k,f+1,n,hf,hk,_=>by
   rw[db]
   by_cases h:n<10
   ·rw[if_pos h,dj,show n / 10=0 by omega,mH,show n % 10=n by omega]
    simp
   ·rw[if_neg h]
    cases k with
    | zero=>simp at hk;omega
    | succ k=>
      have hf':n / 10<10 ^ f:=by rw[Nat.pow_succ] at hf;exact Nat.div_lt_of_lt_mul (by rw[Nat.mul_comm];exact hf)
      have hk':n / 10<10 ^ (k+1):=by rw[Nat.pow_succ] at hk;exact Nat.div_lt_of_lt_mul (by rw[Nat.mul_comm];exact hk)
      have h0:0<f:=by
       cases f with
       | zero=>simp at hf;omega
       | succ f=>omega
      have ih:=jI k f (n / 10) hf' hk' h0
      rw[dj,← ih,List.length_append,List.append_assoc]
      simp
end Go.Proofs.YtbaaokocnegdoaaGreatDoor
set_option maxRecDepth 100000
set_option linter.unusedVariables false
set_option linter.unusedSimpArgs false
-- many steps
namespace Go.Proofs.YtbaaokocnegdoaaGreatDoor
open Go Go.Ab
attribute [local irreducible] vc
end Go.Proofs.YtbaaokocnegdoaaGreatDoor
set_option maxRecDepth 100000
set_option linter.unusedVariables false
set_option linter.unusedSimpArgs false
namespace Go.Proofs.YtbaaokocnegdoaaGreatDoor
open Go Go.Ab
end Go.Proofs.YtbaaokocnegdoaaGreatDoor
set_option maxRecDepth 100000
set_option linter.unusedVariables false
set_option linter.unusedSimpArgs false
-- many steps
namespace Go.Proofs.YtbaaokocnegdoaaGreatDoor
open Go Go.Ab
attribute [local irreducible] vc
def IsN (n:Int)(sc:Nat):Prop:=-999999999999999≤n∧n≤999999999999999∧sc≤12
instance (n:Int) (sc:Nat):Decidable (IsN n sc):=by unfold IsN;infer_instance
def dl (a:Nat):Nat:=(db 20 a).length
theorem Gv:∀ (f a:Nat),a<10 ^ f→0<f→1≤(db f a).length∧a<10 ^ (db f a).length
 | 0,a,_,h=>absurd h (by omega)
 | f+1,a,hf,_=>by
   rw[db]
   by_cases h:a<10
   ·rw[if_pos h];simp;omega
   ·rw[if_neg h]
    have hf':a / 10<10 ^ f:=by rw[Nat.pow_succ] at hf;exact Nat.div_lt_of_lt_mul (by rw[Nat.mul_comm];exact hf)
    have h0:0<f:=by
     cases f with
     | zero=>simp at hf;omega
     | succ f=>omega
    have ih:=Gv f (a / 10) hf' h0
    rw[List.length_append,List.length_cons,List.length_nil,Nat.pow_succ]
    omega
theorem Jg {a:Nat}(h:a<10 ^ 15):1≤dl a∧dl a≤15∧a<10 ^ dl a:=by
 have h20:a<10 ^ 20:=Nat.lt_of_lt_of_le h (Nat.pow_le_pow_right (by omega) (by omega))
 have h1:=Gv 20 a h20 (by omega)
 have h2:=congrArg List.length (jI 14 20 a h20 h (by omega))
 rw[List.length_append,List.length_replicate,iy] at h2
 unfold dl
 exact⟨h1.1,by omega,h1.2⟩
theorem gx (i:Nat):∀ (j a:Nat),dj (i+j) a=dj i (a / 10 ^ j)++dj j a
 | 0,a=>by simp[dj]
 | j+1,a=>by
   rw[← Nat.add_assoc,dj,gx i j (a / 10),dj,List.append_assoc,Nat.div_div_eq_div_mul,Nat.pow_succ,Nat.mul_comm 10]
def Ji (n:Int)(sc:Nat):List UInt8:=
 (if n<0 then [45] else [])++(dj (max (dl n.natAbs) (sc+1) - sc) (n.natAbs / 10 ^ sc)++(if sc=0 then [] else 46::dj sc n.natAbs))
end Go.Proofs.YtbaaokocnegdoaaGreatDoor
set_option maxRecDepth 100000
set_option linter.unusedVariables false
set_option linter.unusedSimpArgs false
-- many steps
namespace Go.Proofs.YtbaaokocnegdoaaGreatDoor
open Go Go.Ab
attribute [local irreducible] vc
end Go.Proofs.YtbaaokocnegdoaaGreatDoor
set_option maxRecDepth 100000
set_option linter.unusedVariables false
set_option linter.unusedSimpArgs false
-- many steps
namespace Go.Proofs.YtbaaokocnegdoaaGreatDoor
open Go Go.Ab
attribute [local irreducible] vc
theorem yE (i a:Nat):dj (i+1) a=UInt8.ofNat (48+a / 10 ^ i % 10)::dj i a:=by
 rw[Nat.add_comm,gx 1 i a]
 simp[dj]
end Go.Proofs.YtbaaokocnegdoaaGreatDoor
set_option maxRecDepth 100000
set_option linter.unusedVariables false
set_option linter.unusedSimpArgs false
-- many steps
namespace Go.Proofs.YtbaaokocnegdoaaGreatDoor
open Go Go.Ab
attribute [local irreducible] vc
def rdS:Bool→Nat→Nat→List UInt8→Nat×Nat
 | _,v,c,[]=>(v,c)
 | p,v,c,b::r=>if isD b=true then rdS (p||decide (b=46)) (10*v+(b.toNat - 48)) (if (p||decide (b=46))=true then c+1 else c) r else rdS (p||decide (b=46)) v c r
def sgI (s:List UInt8)(v:Nat):Int:=if s.head? = some 45 then -(v:Int) else v
end Go.Proofs.YtbaaokocnegdoaaGreatDoor
/-
 DERIVED: THE SHELF's CONTRACTS AT THIS DUMP,IN PLAIN WORDS (tools/lay-plain.mjs out of 'TryzAtoi.lean',which tools/lay-shelf.mjs wrote): THE SAME DECLARATIONS UNDER THE SAME NAMES: 'import','namespace','open','def','theorem' AND NOTHING ELSE: no command of the shelf's: FOR A HAND-IN. Each laying: the table of numbers ('.._ren') and one theorem,a field a fact of the dump's own or the kernel's comparison;each iD: ONE APPLICATION.
-/
namespace Go.Proofs
open Go.Shelf
open Go.RowKit in
end Go.Proofs
set_option maxRecDepth 100000
set_option linter.unusedVariables false
set_option linter.unusedSimpArgs false
namespace Go.Proofs.YtbaaokocnegdoaaGreatDoor
open Go Go.Ab
attribute [local irreducible] vc
theorem EF (s:List UInt8)(c:Int):am Tryz.prog aE 123 [.str s,.int .u8 c] (.int .i64 (ug c.toNat.toUInt8 s 0)):=by
 generalize hq:ug c.toNat.toUInt8 s 0=q
 refine am.intro BH (by simp[Oe]) ?_
 simp(disch:=first|exact dI|fail) only[Oe,lN,mo,hq,push_cast,seval]
theorem IQ (s:List UInt8)(c:Int):am Tryz.prog aE 73 [.str s,.int .u8 c] (.int .i64 (ug c.toNat.toUInt8 s 0)):=by
 have h22:=EF s c
 generalize ug c.toNat.toUInt8 s 0=q at *
 refine am.intro GL (by simp[F73]) ?_
 simp(disch:=first|exact dI|fail) only[F73,push_cast,seval]
 refine ab.pure h22 rfl ?_
 simp(disch:=first|exact dI|fail) only[push_cast,seval]
def Ld:List UInt8:=[9,44,59,124,58,94,126,35]
def gD (n:Int):Bool:=decide (0≤n)&&(decide (n<128)&&decide (0≤ug n.toNat.toUInt8 Ld 0))
def oJ (n:Int):Bool:=decide (n=9)||decide (n=44)||decide (n=59)||decide (n=124)||decide (n=58)||decide (n=94)||decide (n=126)||decide (n=35)
theorem Le (n:Int):gD n=oJ n:=by
 by_cases h:0≤n∧n<128
 ·obtain⟨m,rfl⟩:∃ m:Nat,n=m:=⟨n.toNat,by omega⟩
  have key:∀ k:Fin 128,gD ((k.val:Nat):Int)=oJ ((k.val:Nat):Int):=by decide +kernel
  exact key ⟨m,by omega⟩
 ·have h1:gD n=false:=by
   unfold gD
   by_cases h0:0≤n
   ·rw[show decide (n<128)=false by simp;omega];simp
   ·rw[show decide (0≤n)=false by simp;omega];simp
  rw[h1]
  unfold oJ
  simp
  omega
theorem IM (n:Int):am Tryz.prog aE 47 [.int .i64 n] (.bool (gD n)):=by
 have h73:=IQ Ld n
 refine am.intro GO (by simp[F47]) ?_
 by_cases h0:0≤n
 ·by_cases h1:n<128
  ·have e:gD n=decide (0≤ug n.toNat.toUInt8 Ld 0):=by unfold gD;simp[h0,h1]
   rw[e]
   generalize ug n.toNat.toUInt8 Ld 0=q at *
   have hw:=vT h0 (by omega:n≤255)
   unfold Ld at h73
   by_cases hq:0≤q
   ·rw[show decide (0≤q)=true by simpa using hq]
    simp(disch:=first|exact dI|fail) only[F47,hw,push_cast,seval]
    refine ab.pure h73 rfl ?_
    simp(disch:=first|exact dI|fail) only[push_cast,seval]
   ·rw[show decide (0≤q)=false by simpa using hq]
    simp(disch:=first|exact dI|fail) only[F47,hw,push_cast,seval]
    refine ab.pure h73 rfl ?_
    simp(disch:=first|exact dI|fail) only[push_cast,seval]
  ·have e:gD n=false:=by unfold gD;simp[h1]
   rw[e]
   simp(disch:=first|exact dI|fail) only[F47,push_cast,seval]
 ·have e:gD n=false:=by unfold gD;simp[h0]
  rw[e]
  simp(disch:=first|exact dI|fail) only[F47,push_cast,seval]
set_option maxHeartbeats 2000000 in
theorem Oo (n:Int):am Tryz.prog aE 50 [.int .i64 n] (.bool (oJ n)):=by
 refine am.intro Nq (by simp[F50]) ?_
 by_cases h0:n=9
 ·subst h0
  rw[show oJ 9=true from rfl]
  simp(disch:=first|exact dI|fail) only[F50,push_cast,seval]
 by_cases h1:n=44
 ·subst h1
  rw[show oJ 44=true from rfl]
  simp(disch:=first|exact dI|fail) only[F50,push_cast,seval]
 by_cases h2:n=59
 ·subst h2
  rw[show oJ 59=true from rfl]
  simp(disch:=first|exact dI|fail) only[F50,push_cast,seval]
 by_cases h3:n=124
 ·subst h3
  rw[show oJ 124=true from rfl]
  simp(disch:=first|exact dI|fail) only[F50,push_cast,seval]
 by_cases h4:n=58
 ·subst h4
  rw[show oJ 58=true from rfl]
  simp(disch:=first|exact dI|fail) only[F50,push_cast,seval]
 by_cases h5:n=94
 ·subst h5
  rw[show oJ 94=true from rfl]
  simp(disch:=first|exact dI|fail) only[F50,push_cast,seval]
 by_cases h6:n=126
 ·subst h6
  rw[show oJ 126=true from rfl]
  simp(disch:=first|exact dI|fail) only[F50,push_cast,seval]
 by_cases h7:n=35
 ·subst h7
  rw[show oJ 35=true from rfl]
  simp(disch:=first|exact dI|fail) only[F50,push_cast,seval]
 have e:oJ n=false:=by
  unfold oJ;simp[h0,h1,h2,h3,h4,h5,h6,h7]
 rw[e]
 simp(disch:=first|exact dI|fail) only[F50,push_cast,seval]
end Go.Proofs.YtbaaokocnegdoaaGreatDoor
