/- A part. -/
import Derived.Test.YtngchmkoadaecaaGreatDoorClJR2
set_option linter.unusedVariables false
set_option linter.unusedSimpArgs false
set_option maxRecDepth 100000
namespace Go.Proofs.YtngchmkoadaecaaGreatDoor
open Go Go.Ab
theorem Oy (a b:List UInt8):gp 1 [PV.str a,PV.str b] 0=some (.pv (.eptr [PV.str a,PV.str b] 0 0)):=rfl
theorem Ox (a b:List UInt8):gp 1 [PV.str a,PV.str b] 1=some (.pv (.eptr [PV.str a,PV.str b] 1 0)):=rfl
theorem RI (a b:List UInt8):ap Tryz.prog aB 107 [.list [.str a,.str b]] (.str (if a=[] then b else a)):=by
 refine ap.intro S6.2 (by simp[S6]) ?_
 simp(maxSteps:=9^7) (disch:=try exact dI) only[S6,push_cast,seval]
 refine aw ([]) (fun i:Nat=>[(8,.pv (.int .i64 (i:Int)))]) (fun _=>[]) (fun i=>i<=2/\(0<i->a=[])/\(1<i->b=[])) (fun i=>2 - i) (0) ?_;intro e0 σ0 n0 h0;simp(maxSteps:=9^7) (disch:=try exact dI) only[push_cast,seval] at h0;obtain⟨rfl,rfl,rfl⟩:=h0;refine⟨?_,?_,?_⟩
 ·simp(maxSteps:=9^7) (disch:=try exact dI) only[push_cast,seval]
 ·exact⟨by omega,fun h=>absurd h (by omega),fun h=>absurd h (by omega)⟩
 rintro i ⟨hi,h0,h1⟩
 have hc:i=0\/i=1\/i=2:=by omega
 rcases hc with rfl | rfl | rfl
 ·by_cases ha:a=[]
  ·subst ha
   simp(maxSteps:=9^7) (disch:=try exact dI) only[Oy,push_cast,seval]
   exact⟨1,aN qsZ,⟨by omega,fun _=>by first | rfl | trivial,fun h=>absurd h (by omega)⟩,by show 2 - 1<2 - 0;omega⟩
  ·simp(maxSteps:=9^7) (disch:=try exact dI) only[ha,Oy,push_cast,seval]
 ·have ha:=h0 (by omega)
  subst ha
  by_cases hb:b=[]
  ·subst hb
   simp(maxSteps:=9^7) (disch:=try exact dI) only[Ox,push_cast,seval]
   exact⟨2,aN qsZ,⟨by omega,fun _=>by first | rfl | trivial,fun _=>by first | rfl | trivial⟩,by show 2 - 2<2 - 1;omega⟩
  ·simp(maxSteps:=9^7) (disch:=try exact dI) only[hb,Ox,push_cast,seval]
 ·have ha:=h0 (by omega)
  have hb:=h1 (by omega)
  subst ha hb
  simp(maxSteps:=9^7) (disch:=try exact dI) only[push_cast,seval]
theorem Gr (w:Wkd)(hr:I64 w.route)(hp:w.place.length<=900)(hok:∀ x∈w.place,I64 x):ap Tryz.prog aB 87 [w.pv] (.str (nmW w.route w.place w.step)):=by
 have h1:=rO w.route w.place hr hp hok
 have h2:=RI w.step.name (iO w.route w.place)
 unfold nmW
 generalize iO w.route w.place=A at *
 obtain⟨r,pl,⟨s1,s2,s3,s4,s5,s6,s7,s8,s9,sa,sb⟩⟩:=w
 simp only[Wkd.route,Wkd.place,Wkd.step,Stp.name] at h1 h2 ⊢
 refine ap.intro Q87.2 (by simp[Q87]) ?_
 simp(maxSteps:=9^7) (disch:=try exact dI) only[Q87,Up,Ud,ae,push_cast,seval]
 refine au h1 rfl ?_
 simp(maxSteps:=9^7) (disch:=try exact dI) only[push_cast,seval]
 refine ab.pure h2 rfl ?_
 simp(maxSteps:=9^7) (disch:=try exact dI) only[push_cast,seval]
theorem Gs (w:Wkd)(hr:I64 w.route)(hp:w.place.length<=900)(hok:∀ x∈w.place,I64 x):ap Tryz.prog aB 12 [w.pv] (.str (nmW w.route w.place w.step)):=by
 have h1:=ML w.route w.place hr hp hok
 unfold nmW
 generalize iO w.route w.place=A at *
 obtain⟨r,pl,⟨s1,s2,s3,s4,s5,s6,s7,s8,s9,sa,sb⟩⟩:=w
 simp only[Wkd.route,Wkd.place,Wkd.step,Stp.name] at h1 ⊢
 refine ap.intro Q12.2 (by simp[Q12]) ?_
 by_cases h:s1=[]
 ·subst h
  simp(maxSteps:=9^7) (disch:=try exact dI) only[Q12,Up,Ud,ae,push_cast,seval]
  refine ab.pure h1 rfl ?_
  simp(maxSteps:=9^7) (disch:=try exact dI) only[push_cast,seval]
 ·simp(maxSteps:=9^7) (disch:=try exact dI) only[Q12,Up,Ud,ae,h,push_cast,seval]
