/- A part of the proof for LiteralQuotesCardSaid. -/
import Derived.Test.YtamoeblcphjbaaaGreatDoorQuL4
import Derived.Test.YtamoeblcphjbaaaGreatDoorQuLC17
import Derived.Test.YtamoeblcphjbaaaGreatDoorQuLC3
import Derived.Test.YtamoeblcphjbaaaGreatDoorQuLR6
import Derived.Test.YtamoeblcphjbaaaGreatDoorQuLQ6
set_option maxRecDepth 100000
set_option linter.unusedVariables false
set_option linter.unusedSimpArgs false
-- many steps
namespace Go.Proofs.YtamoeblcphjbaaaGreatDoor
open Go Go.Ab
attribute [local irreducible] vc
end Go.Proofs.YtamoeblcphjbaaaGreatDoor
set_option linter.unusedVariables false
set_option linter.unusedSimpArgs false
namespace Go.Ab
open Go
end Go.Ab
set_option maxRecDepth 100000
set_option linter.unusedVariables false
set_option linter.unusedSimpArgs false
namespace Go.Proofs.YtamoeblcphjbaaaGreatDoor
open Go Go.Ab
end Go.Proofs.YtamoeblcphjbaaaGreatDoor
set_option maxRecDepth 100000
set_option linter.unusedVariables false
set_option linter.unusedSimpArgs false
-- many steps
namespace Go.Proofs.YtamoeblcphjbaaaGreatDoor
open Go Go.Ab
attribute [local irreducible] vc
section
variable (f:Nat)(n s:Int)(t:List UInt8)(l:List Val)(fs:List Fld)
end
end Go.Proofs.YtamoeblcphjbaaaGreatDoor
set_option maxRecDepth 100000
set_option linter.unusedVariables false
set_option linter.unusedSimpArgs false
-- many steps
namespace Go.Proofs.YtamoeblcphjbaaaGreatDoor
open Go Go.Ab
attribute [local irreducible] vc
section
variable (f:Nat)(n s:Int)(t:List UInt8)(l:List Val)(fs:List Fld)
end
end Go.Proofs.YtamoeblcphjbaaaGreatDoor
set_option maxRecDepth 100000
set_option linter.unusedVariables false
set_option linter.unusedSimpArgs false
-- many steps
namespace Go.Proofs.YtamoeblcphjbaaaGreatDoor
open Go Go.Ab
attribute [local irreducible] vc
section
variable (f:Nat)(n s:Int)(t:List UInt8)(l:List Val)(fs:List Fld)
end
end Go.Proofs.YtamoeblcphjbaaaGreatDoor
set_option maxRecDepth 100000
set_option linter.unusedVariables false
set_option linter.unusedSimpArgs false
-- many steps
namespace Go.Proofs.YtamoeblcphjbaaaGreatDoor
open Go Go.Ab
attribute [local irreducible] vc
section
variable (f:Nat)(n s:Int)(t:List UInt8)(l:List Val)(fs:List Fld)
end
end Go.Proofs.YtamoeblcphjbaaaGreatDoor
set_option maxRecDepth 100000
set_option linter.unusedVariables false
set_option linter.unusedSimpArgs false
-- many steps
namespace Go.Proofs.YtamoeblcphjbaaaGreatDoor
open Go Go.Ab
attribute [local irreducible] vc
section
variable (f:Nat)(n s:Int)(t:List UInt8)(l:List Val)(fs:List Fld)
end
end Go.Proofs.YtamoeblcphjbaaaGreatDoor
set_option maxRecDepth 100000
set_option linter.unusedVariables false
set_option linter.unusedSimpArgs false
-- many steps
namespace Go.Proofs.YtamoeblcphjbaaaGreatDoor
open Go Go.Ab
attribute [local irreducible] vc
section
variable (f:Nat)(n s:Int)(t:List UInt8)(l:List Val)(fs:List Fld)
end
end Go.Proofs.YtamoeblcphjbaaaGreatDoor
set_option maxRecDepth 100000
set_option linter.unusedVariables false
set_option linter.unusedSimpArgs false
namespace Go.Proofs.YtamoeblcphjbaaaGreatDoor
open Go Go.Ab Go.RowKit
end Go.Proofs.YtamoeblcphjbaaaGreatDoor
set_option maxRecDepth 100000
set_option linter.unusedVariables false
set_option linter.unusedSimpArgs false
namespace Go.Proofs.YtamoeblcphjbaaaGreatDoor
open Go Go.Ab Go.RowKit
end Go.Proofs.YtamoeblcphjbaaaGreatDoor
set_option maxRecDepth 100000
set_option linter.unusedVariables false
set_option linter.unusedSimpArgs false
namespace Go.Proofs.YtamoeblcphjbaaaGreatDoor
open Go Go.Ab Go.RowKit
end Go.Proofs.YtamoeblcphjbaaaGreatDoor
set_option maxRecDepth 100000
set_option linter.unusedVariables false
set_option linter.unusedSimpArgs false
namespace Go.Proofs.YtamoeblcphjbaaaGreatDoor
open Go Go.Ab Go.RowKit
end Go.Proofs.YtamoeblcphjbaaaGreatDoor
set_option maxRecDepth 100000
set_option linter.unusedVariables false
set_option linter.unusedSimpArgs false
-- many steps
namespace Go.Proofs.YtamoeblcphjbaaaGreatDoor
open Go Go.Ab Go.RowKit
attribute [local irreducible] vc
end Go.Proofs.YtamoeblcphjbaaaGreatDoor
set_option maxRecDepth 100000
set_option linter.unusedVariables false
set_option linter.unusedSimpArgs false
-- many steps
namespace Go.Proofs.YtamoeblcphjbaaaGreatDoor
open Go Go.Ab Go.RowKit
attribute [local irreducible] vc
def jT:Nat→Val→Prop
 | 0,_=>False
 | n+1,v=>(∀ x∈v.lst,jT n x)∧∀ x∈v.fields,jT n x.value
theorem jI:∀ (n:Nat) (v:Val),jT n v→jT (n+1) v
 | 0,_,h=>h.elim
 | n+1,v,h=>⟨fun x hx=>jI n x (h.1 x hx),fun x hx=>jI n x.value (h.2 x hx)⟩
theorem lN {n m:Nat}(h:n≤m){v:Val}(hv:jT n v):jT m v:=by
 induction h with
 | refl=>exact hv
 | step _ ih=>exact jI _ _ ih
theorem qB {α:Type}(g:α→Val):∀ l:List α,(∀ x∈l,∃ n,jT n (g x))→∃ n,∀ x∈l,jT n (g x)
 | [],_=>⟨0,by simp⟩
 | x::r,h=>by
   obtain⟨n,hn⟩:=h x (by simp)
   obtain⟨m,hm⟩:=qB g r fun y hy=>h y (List.mem_cons_of_mem _ hy)
   refine⟨max n m,fun y hy=>?_⟩
   rcases List.mem_cons.1 hy with rfl | hy
   ·exact lN (Nat.le_max_left _ _) hn
   ·exact lN (Nat.le_max_right _ _) (hm y hy)
theorem gB (v:Val):∃ n,jT n v:=by
 obtain⟨k,n,s,t,l,fs⟩:=v
 have h1:∀ x∈l,∃ n,jT n x:=fun x hx=>gB x
 have h2:∀ x∈fs,∃ n,jT n x.value:=fun x hx=>by
  obtain⟨nm,y⟩:=x
  exact gB y
 obtain⟨a,ha⟩:=qB id l h1
 obtain⟨b,hb⟩:=qB Fld.value fs h2
 exact⟨max a b+1,fun x hx=>lN (Nat.le_max_left _ _) (ha x hx),fun x hx=>lN (Nat.le_max_right _ _) (hb x hx)⟩
termination_by SizeOf.sizeOf v
decreasing_by
 ·have:=List.sizeOf_lt_of_mem hx;simp;omega
 ·have:=List.sizeOf_lt_of_mem hx;simp at this ⊢;omega
theorem lH:∀ (n:Nat) (v:Val),jT n v→qu n v
 | 0,_,h=>h
 | n+1,v,h=>fun x hx=>by
   unfold cx at hx
   split at hx
   ·exact lH n x (h.1 x hx)
   ·split at hx
    ·obtain⟨y,hy,rfl⟩:=List.mem_map.1 hx
     exact lH n _ (h.2 y hy)
    ·simp at hx
end Go.Proofs.YtamoeblcphjbaaaGreatDoor
set_option maxRecDepth 100000
set_option linter.unusedVariables false
set_option linter.unusedSimpArgs false
-- many steps
namespace Go.Proofs.YtamoeblcphjbaaaGreatDoor
open Go Go.Ab
attribute [local irreducible] vc
noncomputable def wi (v:Val):Int:=Bm 0 (gG (gB v).choose 1 v)
theorem Bl (v:Val)(hv:v.ok):aw Tryz.prog aF 15 [v.pv] (.int .i64 (wi v)):=lJ _ v (lH _ v (gB v).choose_spec) hv
noncomputable def Py (v:Val)(R:Rd):Val×Int×Int:=
 if R.e=0 then (if cn v=true then (v,0,0) else if wi v=0 then (v,0,0) else (aR,(R.off:Int),wi v)) else (aR,(R.off:Int),R.e)
noncomputable def fD (s:List UInt8):Val×Int×Int:=Py (aI srt 8 0 (bY s)).1 (jp (aI srt 8 0 (bY s)).2)
section
variable {T:Nat}{p:PV}
theorem mU (s:List UInt8):OkT (bY s):=by
 by_cases h:65536<s.length
 ·rw[iG h];intro h;exact absurd (show (5:Int)=0 from h) (by decide)
 ·rw[iF h]
  rcases y3 (yZ (s:=s) (by omega)) with h2 | h2
  ·exact h2
  ·rw[h2];exact fun _=>⟨bI,by simp[rd0],by simp[rd0],by simp[rd0],fun _=>rfl⟩
theorem xt (s:List UInt8):(bY s).s=s:=by
 by_cases h:65536<s.length
 ·rw[iG h]
 ·rw[iF h,Nq];rfl
theorem QK (s:List UInt8):(aI srt 8 0 (bY s)).1.ok∧aL Tryz.prog (di T p) 1 46 [.ptr 0 0,.pv (.int .i64 0)] [rdB (bY s)] (.pv (aI srt 8 0 (bY s)).1.pv) [rdB (aI srt 8 0 (bY s)).2]:=by
 by_cases h:s.length≤65536
 ·exact⟨(wF s h 8 0 _ (rx s) (mU s) (xt s)).1,Lh s h 8 0 rfl _ (rx s) (mU s) (xt s)⟩
 ·have he:¬ (bY s).e=0:=by rw[iG (by omega)];exact fun h=>absurd (show (5:Int)=0 from h) (by decide)
  rw[wI he]
  refine⟨dh,?_⟩
  generalize bY s=R at *
  simp only[rdB,rdC,aR,Val.pv_mk]
  refine aL.intro bP (by simp[F46]) ?_
  simp(maxSteps:=9^7) (disch:=first|exact dI|fail) only[F46,he,push_cast,seval]
  exact ap [] (by simp(maxSteps:=9^7) (disch:=first|exact dI|fail) only[push_cast,seval])
set_option maxHeartbeats 2000000 in
theorem yK (s:List UInt8):aw Tryz.prog (di T p) 18 [.str s] (.tup [(fD s).1.pv,.int .i64 (fD s).2.1,.int .i64 (fD s).2.2]):=by
 have h45:=Hr (T:=T) (p:=p) s
 obtain⟨hok,h46⟩:=QK (T:=T) (p:=p) s
 unfold fD
 generalize bY s=R0 at *
 generalize aI srt 8 0 R0=q at *
 obtain⟨v,R1⟩:=q
 simp only at hok h46 ⊢
 have h47:=E9 (T:=T) (p:=p) R1
 have h16:=toE (T:=T) (p:=p) (y8 v)
 have h15:=toE (T:=T) (p:=p) (Bl v hok)
 unfold Py
 generalize jp R1=R2 at *
 generalize wi v=c at *
 generalize cn v=b at *
 obtain⟨w1,w2,w3,w4,w5,w6⟩:=v
 simp only[rdB,rdC,Val.pv_mk] at h45 h46 h47 h16 h15
 by_cases he:R2.e=0
 ·have heI:(R2.e=0)=True:=eq_true he
  rw[if_pos he]
  cases b with
  | true=>
    rw[if_pos rfl]
    refine aw.intro sA (by simp[F18]) ?_
    simp(maxSteps:=9^7) (disch:=first|exact dI|fail) only[F18,Val.pv_mk,push_cast,seval]
    refine ab.lentK h45 [] rfl (by simp(maxSteps:=9^7) (disch:=first|exact dI|fail) only[push_cast,seval]) (by simp(maxSteps:=9^7) (disch:=first|exact dI|fail) only[push_cast,seval]) ?_
    simp(maxSteps:=9^7) (disch:=first|exact dI|fail) only[push_cast,seval]
    refine ab.lentK h46 [1] rfl (by simp(maxSteps:=9^7) (disch:=first|exact dI|fail) only[push_cast,seval]) (by simp(maxSteps:=9^7) (disch:=first|exact dI|fail) only[push_cast,seval]) ?_
    simp(maxSteps:=9^7) (disch:=first|exact dI|fail) only[push_cast,seval]
    refine ab.lentK h47 [1] rfl (by simp(maxSteps:=9^7) (disch:=first|exact dI|fail) only[push_cast,seval]) (by simp(maxSteps:=9^7) (disch:=first|exact dI|fail) only[push_cast,seval]) ?_
    simp(maxSteps:=9^7) (disch:=first|exact dI|fail) only[heI,push_cast,seval]
    refine ab.pure h16 rfl ?_
    simp(maxSteps:=9^7) (disch:=first|exact dI|fail) only[heI,push_cast,seval]
  | false=>
    rw[if_neg (by decide)]
    by_cases hc:c=0
    ·have hcI:(c=0)=True:=eq_true hc
     rw[if_pos hc]
     refine aw.intro sA (by simp[F18]) ?_
     simp(maxSteps:=9^7) (disch:=first|exact dI|fail) only[F18,Val.pv_mk,push_cast,seval]
     refine ab.lentK h45 [] rfl (by simp(maxSteps:=9^7) (disch:=first|exact dI|fail) only[push_cast,seval]) (by simp(maxSteps:=9^7) (disch:=first|exact dI|fail) only[push_cast,seval]) ?_
     simp(maxSteps:=9^7) (disch:=first|exact dI|fail) only[push_cast,seval]
     refine ab.lentK h46 [1] rfl (by simp(maxSteps:=9^7) (disch:=first|exact dI|fail) only[push_cast,seval]) (by simp(maxSteps:=9^7) (disch:=first|exact dI|fail) only[push_cast,seval]) ?_
     simp(maxSteps:=9^7) (disch:=first|exact dI|fail) only[push_cast,seval]
     refine ab.lentK h47 [1] rfl (by simp(maxSteps:=9^7) (disch:=first|exact dI|fail) only[push_cast,seval]) (by simp(maxSteps:=9^7) (disch:=first|exact dI|fail) only[push_cast,seval]) ?_
     simp(maxSteps:=9^7) (disch:=first|exact dI|fail) only[heI,push_cast,seval]
     refine ab.pure h16 rfl ?_
     simp(maxSteps:=9^7) (disch:=first|exact dI|fail) only[push_cast,seval]
     refine ab.pure h15 rfl ?_
     simp(maxSteps:=9^7) (disch:=first|exact dI|fail) only[hcI,push_cast,seval]
    ·rw[if_neg hc]
     refine aw.intro sA (by simp[F18]) ?_
     simp(maxSteps:=9^7) (disch:=first|exact dI|fail) only[F18,Val.pv_mk,aR,push_cast,seval]
     refine ab.lentK h45 [] rfl (by simp(maxSteps:=9^7) (disch:=first|exact dI|fail) only[push_cast,seval]) (by simp(maxSteps:=9^7) (disch:=first|exact dI|fail) only[push_cast,seval]) ?_
     simp(maxSteps:=9^7) (disch:=first|exact dI|fail) only[push_cast,seval]
     refine ab.lentK h46 [1] rfl (by simp(maxSteps:=9^7) (disch:=first|exact dI|fail) only[push_cast,seval]) (by simp(maxSteps:=9^7) (disch:=first|exact dI|fail) only[push_cast,seval]) ?_
     simp(maxSteps:=9^7) (disch:=first|exact dI|fail) only[push_cast,seval]
     refine ab.lentK h47 [1] rfl (by simp(maxSteps:=9^7) (disch:=first|exact dI|fail) only[push_cast,seval]) (by simp(maxSteps:=9^7) (disch:=first|exact dI|fail) only[push_cast,seval]) ?_
     simp(maxSteps:=9^7) (disch:=first|exact dI|fail) only[heI,push_cast,seval]
     refine ab.pure h16 rfl ?_
     simp(maxSteps:=9^7) (disch:=first|exact dI|fail) only[push_cast,seval]
     refine ab.pure h15 rfl ?_
     simp(maxSteps:=9^7) (disch:=first|exact dI|fail) only[hc,push_cast,seval]
 ·rw[if_neg he]
  refine aw.intro sA (by simp[F18]) ?_
  simp(maxSteps:=9^7) (disch:=first|exact dI|fail) only[F18,Val.pv_mk,aR,push_cast,seval]
  refine ab.lentK h45 [] rfl (by simp(maxSteps:=9^7) (disch:=first|exact dI|fail) only[push_cast,seval]) (by simp(maxSteps:=9^7) (disch:=first|exact dI|fail) only[push_cast,seval]) ?_
  simp(maxSteps:=9^7) (disch:=first|exact dI|fail) only[push_cast,seval]
  refine ab.lentK h46 [1] rfl (by simp(maxSteps:=9^7) (disch:=first|exact dI|fail) only[push_cast,seval]) (by simp(maxSteps:=9^7) (disch:=first|exact dI|fail) only[push_cast,seval]) ?_
  simp(maxSteps:=9^7) (disch:=first|exact dI|fail) only[push_cast,seval]
  refine ab.lentK h47 [1] rfl (by simp(maxSteps:=9^7) (disch:=first|exact dI|fail) only[push_cast,seval]) (by simp(maxSteps:=9^7) (disch:=first|exact dI|fail) only[push_cast,seval]) ?_
  simp(maxSteps:=9^7) (disch:=first|exact dI|fail) only[he,push_cast,seval]
end
end Go.Proofs.YtamoeblcphjbaaaGreatDoor
