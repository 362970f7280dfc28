/- A part. -/
import Derived.Test.YtngchmkoadaecaaGreatDoorClJI
set_option linter.unusedVariables false
set_option linter.unusedSimpArgs false
set_option maxRecDepth 100000
open List renaming eq_nil_of_length_eq_zero->UG,getElem?_eq_getElem->Uq,mem_of_getElem?->Us,sizeOf_lt_of_mem->Vi
namespace Go.Proofs.YtngchmkoadaecaaGreatDoor
open Go Go.Ab
mutual
def ey:Stp->Bool
 | .mk _ kind _ _ _ _ _ _ _ _ br=>if kind=13 then true else if kind=14 then true else if kind=11 then (!br.isEmpty&&Ni br) else if kind=12 then (!br.isEmpty&&Ni br) else false
def Ni:List Bra->Bool
 | []=>true
 | b::r=>Pd b&&Ni r
def Pd:Bra->Bool
 | .mk _ l=>dZ l
def dZ:List Stp->Bool
 | []=>false
 | s::r=>if r.isEmpty then ey s else dZ r
end
theorem oO (l:List Bra)(q:Bra->Bool)(hq:∀ x∈l,ap Tryz.prog aB 50 [x.pv] (.bool (q x)))(hmax:l.length<=maxLen) :
  ap Tryz.prog aB 49 [.list (l.map Bra.pv),.clo 50 [] []] (.bool (l.any q)):=by
 refine ap.intro Q49.2 (by simp[Q49]) ?_
 simp(maxSteps:=9^7) (disch:=try exact dI) only[Q49,push_cast,seval]
 refine ab.pure (LW l 50 [] q hq hmax) rfl ?_
 simp(maxSteps:=9^7) (disch:=try exact dI) only[Bra.cells_len,Bra.isAgg,push_cast,seval]
 cases h:l.findIdx? q with
 | none=>
   rw[List.findIdx?_eq_none_iff] at h
   have:l.any q=false:=by
    rw[List.any_eq_false]
    intro x hx;simpa using h x hx
   rw[this];simp only[cj];exact .refl _
 | some i=>
   rw[List.findIdx?_eq_some_iff_getElem] at h
   obtain⟨hlt,hqi,_⟩:=h
   have:l.any q=true:=List.any_eq_true.2 ⟨_,List.getElem_mem hlt,hqi⟩
   rw[this]
   simp[cj]
theorem Bb (b:Bra)(h:ap Tryz.prog aB 25 [.list (b.steps.map Stp.pv)] (.bool (dZ b.steps))):ap Tryz.prog aB 50 [b.pv] (.bool (!dZ b.steps)):=by
 obtain⟨w,l⟩:=b
 rw[TQ]
 refine ap.intro Q50.2 (by simp[Q50]) ?_
 simp(maxSteps:=9^7) (disch:=try exact dI) only[Q50,push_cast,seval]
 refine ab.pure h rfl ?_
 simp(maxSteps:=9^7) (disch:=try exact dI) only[push_cast,seval]
theorem rQ:∀ (k:List Bra),Ni k=k.all fun b=>dZ b.steps
 | []=>by simp[Ni]
 | b::r=>by
   obtain⟨w,l⟩:=b
   rw[Ni,rQ r,Pd];rfl
def wL:Option Stp->Bool
 | some s=>ey s
 | none=>false
theorem rx:∀ l:List Stp,dZ l=wL l.getLast?
 | []=>by simp[dZ,wL]
 | [s]=>by simp[dZ,wL]
 | s::t::r=>by
   rw[dZ]
   simp only[List.isEmpty_cons,Bool.false_eq_true,if_false]
   rw[rx (t::r)]
   simp
theorem Tk {l:List Stp}(h:l.length*176<=140737488351232):l.length<=9223372036854775807:=by omega
theorem IR (l:List Stp)(hm:l.length*176<=140737488351232)(h:∀ s∈l,ap Tryz.prog aB 26 [s.pv] (.bool (ey s))):ap Tryz.prog aB 25 [.list (l.map Stp.pv)] (.bool (dZ l)):=by
 have hm':=Tk hm
 refine ap.intro Q25.2 (by simp[Q25]) ?_
 by_cases h0:l.length=0
 ·have:l=[]:=UG h0
  subst this
  simp(maxSteps:=9^7) (disch:=try exact dI) only[Q25,dZ,push_cast,seval]
 ·obtain⟨s,hs⟩:∃ s,l[l.length - 1]? = some s:=⟨l[l.length - 1],Uq (by omega)⟩
  have hcall:=h s (Us hs)
  have hf:dZ l=ey s:=by rw[rx,List.getLast?_eq_getElem?,hs];rfl
  have hsI:l[((l.length:Int) - 1).toNat]? = some s:=by rw[show ((l.length:Int) - 1).toNat=l.length - 1 by omega,hs]
  have hlen:(0:Int)<l.length:=by omega
  simp(maxSteps:=9^7) (disch:=try exact dI) only[Q25,nH,hsI,Stp.cells_len,Stp.isAgg,push_cast,seval]
  refine ab.pure hcall rfl ?_
  simp(maxSteps:=9^7) (disch:=try exact dI) only[hf,push_cast,seval]
theorem Mi (s:Stp)(hm:s.ok)(h:∀ b∈s.branches,ap Tryz.prog aB 25 [.list (b.steps.map Stp.pv)] (.bool (dZ b.steps))):ap Tryz.prog aB 26 [s.pv] (.bool (ey s)):=by
 obtain⟨a,kind,c,d,e,f,g,i,j,k,m⟩:=s
 rw[Uc] at hm
 simp only[Stp.branches] at h
 have hml:m.length<=9223372036854775807:=by have:=hm.2.2.2.2.2.2.2.2.2.2.2.2.2.1;omega
 have hcall:=oO m (fun b=>!dZ b.steps) (fun b hb=>Bb b (h b hb)) (by have:=hm.2.2.2.2.2.2.2.2.2.2.2.2.2.1;unfold maxLen;omega)
 rw[Ud,ey,rQ]
 refine ap.intro Q26.2 (by simp[Q26]) ?_
 by_cases h13:kind=13
 ·simp(maxSteps:=9^7) (disch:=try exact dI) only[Q26,h13,push_cast,seval]
 by_cases h14:kind=14
 ·simp(maxSteps:=9^7) (disch:=try exact dI) only[Q26,h13,h14,push_cast,seval]
 have hex:∀ q:Bool,(kind=11\/kind=12)->(if kind=13 then true else if kind=14 then true else if kind=11 then q else if kind=12 then q else false)=q:=by
  intro q hk
  rw[if_neg h13,if_neg h14]
  rcases hk with h | h
  ·rw[if_pos h]
  ·rw[if_neg (by omega),if_pos h]
 by_cases h1112:kind=11\/kind=12
 ·rw[hex _ h1112]
  by_cases h0:m.length=0
  ·have:m=[]:=UG h0
   subst this
   rcases h1112 with hk | hk
   ·simp(maxSteps:=9^7) (disch:=try exact dI) only[Q26,hk,push_cast,seval]
    simp
   ·simp(maxSteps:=9^7) (disch:=try exact dI) only[Q26,hk,push_cast,seval]
    simp
  ·have hpos:(0:Int)<m.length:=by omega
   have hne:m.isEmpty=false:=by cases m<;>simp at h0 ⊢
   have hnn:(!m.any fun b=>!dZ b.steps)=m.all fun b=>dZ b.steps:=by simp[List.all_eq_not_any_not]
   rcases h1112 with hk | hk
   ·simp(maxSteps:=9^7) (disch:=try exact dI) only[Q26,hk,push_cast,seval]
    refine ab.pure hcall rfl ?_
    simp(maxSteps:=9^7) (disch:=try exact dI) only[hne,hnn,push_cast,seval]
   ·simp(maxSteps:=9^7) (disch:=try exact dI) only[Q26,hk,push_cast,seval]
    refine ab.pure hcall rfl ?_
    simp(maxSteps:=9^7) (disch:=try exact dI) only[hne,hnn,push_cast,seval]
 ·have h11:¬ kind=11:=fun h=>h1112 (.inl h)
  have h12:¬ kind=12:=fun h=>h1112 (.inr h)
  simp(maxSteps:=9^7) (disch:=try exact dI) only[Q26,h11,h12,h13,h14,push_cast,seval]
theorem ti:∀ (N:Nat) (s:Stp),SizeOf.sizeOf s<N->s.ok->ap Tryz.prog aB 26 [s.pv] (.bool (ey s))/\∀ b∈s.branches,ap Tryz.prog aB 25 [.list (b.steps.map Stp.pv)] (.bool (dZ b.steps))
 | 0,s,h,_=>absurd h (by omega)
 | N+1,s,h,hs=>by
   have hb:∀ b∈s.branches,ap Tryz.prog aB 25 [.list (b.steps.map Stp.pv)] (.bool (dZ b.steps)):=by
    intro b hb
    obtain⟨a,kind,c,d,e,f,g,i,j,k,m⟩:=s
    rw[Uc] at hs
    simp only[Stp.branches] at hb
    have hbo:=hs.2.2.2.2.2.2.2.2.2.2.2.2.2.2 b hb
    have h1:=Vi hb
    obtain⟨w,l⟩:=b
    rw[TP] at hbo
    refine IR l hbo.2.2.1 fun x hx=>(ti N x ?_ (hbo.2.2.2 x hx)).1
    have h2:=Vi hx
    simp only[Bra.mk.sizeOf_spec,Stp.mk.sizeOf_spec] at h h1
    omega
   exact⟨Mi s hs hb,hb⟩
theorem CO (s:Stp)(hs:s.ok):ap Tryz.prog aB 26 [s.pv] (.bool (ey s)):=(ti _ s (Nat.lt_succ_self _) hs).1
theorem wD (l:List Stp)(hl:okL l):ap Tryz.prog aB 25 [.list (l.map Stp.pv)] (.bool (dZ l)):=IR l hl.1 fun s hs=>CO s (hl.2 s hs)
theorem MQ {l:List Bra}(h:∀ (j:Nat) (x:Bra),j<l.length->l[j]? = some x->dZ x.steps=true):(l.all fun b=>dZ b.steps)=true:=by
 rw[List.all_eq_true]
 intro x hx
 obtain⟨j,hj⟩:=List.getElem?_of_mem hx
 exact h j x (List.getElem?_eq_some_iff.1 hj).1 hj
theorem Mm (s:Stp)(hm:s.ok)(hq:∀ b∈s.branches,ap Tryz.prog aB 16 [.list (b.steps.map Stp.pv)] (.bool (dZ b.steps))):ap Tryz.prog aB 45 [s.pv] (.bool (ey s)):=by
 obtain⟨a,kind,c,d,e,f,g,i,j,k,m⟩:=s
 rw[Uc] at hm
 simp only[Stp.branches] at hq
 have hml:m.length<=9223372036854775807:=by have:=hm.2.2.2.2.2.2.2.2.2.2.2.2.2.1;omega
 rw[Ud,ey,rQ]
 refine ap.intro Q45.2 (by simp[Q45]) ?_
 by_cases h13:kind=13
 ·simp(maxSteps:=9^7) (disch:=try exact dI) only[Q45,h13,push_cast,seval]
 by_cases h14:kind=14
 ·simp(maxSteps:=9^7) (disch:=try exact dI) only[Q45,h13,h14,push_cast,seval]
 by_cases h1112:kind=11\/kind=12
 ·have hex:∀ q:Bool,(if kind=13 then true else if kind=14 then true else if kind=11 then q else if kind=12 then q else false)=q:=by
   intro q
   rw[if_neg h13,if_neg h14]
   rcases h1112 with h | h
   ·rw[if_pos h]
   ·rw[if_neg (by omega),if_pos h]
  rw[hex]
  by_cases h0:m.length=0
  ·have:m=[]:=UG h0
   subst this
   rcases h1112 with hk | hk
   ·simp(maxSteps:=9^7) (disch:=try exact dI) only[Q45,hk,push_cast,seval]
    simp
   ·simp(maxSteps:=9^7) (disch:=try exact dI) only[Q45,hk,push_cast,seval]
    simp
  ·have hpos:(0:Int)<m.length:=by omega
   have hne:m.isEmpty=false:=by cases m<;>simp at h0 ⊢
   rcases h1112 with hk | hk
   all_goals
    simp(maxSteps:=9^7) (disch:=try exact dI) only[Q45,hk,push_cast,seval]
    refine aw ([]) (fun q:Nat=>[(3,.pv (.int .i64 (q:Int)))]) (fun _=>[]) (fun q=>q<=m.length/\∀ j x,j<q->m[j]? = some x->dZ x.steps=true) (fun q=>m.length - q) (0) ?_;intro e0 σ0 n0 h0;simp(maxSteps:=9^7) (disch:=try exact dI) only[push_cast,seval] at h0;obtain⟨rfl,rfl,rfl⟩:=h0;refine⟨?_,?_,?_⟩
    ·simp(maxSteps:=9^7) (disch:=try exact dI) only[push_cast,seval]
    ·exact⟨Nat.zero_le _,by omega⟩
    rintro q ⟨hqm,hpre⟩
    by_cases hlt:q<m.length
    ·have hltI:(q:Int)<m.length:=by omega
     obtain⟨x,hx⟩:∃ x,m[q]? = some x:=⟨m[q],Uq (by omega)⟩
     have hcx:=hq x (Us hx)
     have hfin:∀ y,m[q]? = some y->dZ x.steps=true->dZ y.steps=true:=fun y hy hfx=>by rw[hx] at hy;cases hy;exact hfx
     have hex2:dZ x.steps=false->(m.all fun b=>dZ b.steps)=false:=fun hfx=>by
      rw[List.all_eq_false]
      exact⟨x,Us hx,by simp[hfx]⟩
     obtain⟨x1,x2⟩:=x
     simp only[Bra.steps] at hcx hfin
     simp(maxSteps:=9^7) (disch:=try exact dI) only[hx,TQ,push_cast,seval]
     refine ab.pure hcx rfl ?_
     simp(maxSteps:=9^7) (disch:=try exact dI) only[push_cast,seval]
     cases hfx:dZ x2 with
     | true=>
       simp(maxSteps:=9^7) (disch:=try exact dI) only[push_cast,seval]
       refine⟨q+1,aN qsZ,⟨by omega,fun j y hj hjy=>?_⟩,by omega⟩
       rcases Nat.lt_or_ge j q with h | h
       ·exact hpre j y h hjy
       ·have:j=q:=by omega
        subst this
        exact hfin y hjy hfx
     | false=>
       simp(maxSteps:=9^7) (disch:=try exact dI) only[push_cast,seval]
       rw[hex2 (by exact hfx),hne];simp
    ·have hltI:¬ (q:Int)<m.length:=by omega
     simp(maxSteps:=9^7) (disch:=try exact dI) only[push_cast,seval]
     rw[MQ (fun j x hj hjx=>hpre j x (by omega) hjx),hne];exact .refl _
 ·have h11:¬ kind=11:=fun h=>h1112 (.inl h)
  have h12:¬ kind=12:=fun h=>h1112 (.inr h)
  simp(maxSteps:=9^7) (disch:=try exact dI) only[Q45,h11,h12,h13,h14,push_cast,seval]
theorem CC (l:List Stp)(hm:l.length*176<=140737488351232)(h:∀ s∈l,ap Tryz.prog aB 45 [s.pv] (.bool (ey s))):ap Tryz.prog aB 16 [.list (l.map Stp.pv)] (.bool (dZ l)):=by
 have hm':=Tk hm
 refine ap.intro Q16.2 (by simp[Q16]) ?_
 by_cases h0:l.length=0
 ·have:l=[]:=UG h0
  subst this
  simp(maxSteps:=9^7) (disch:=try exact dI) only[Q16,dZ,push_cast,seval]
 ·obtain⟨s,hs⟩:∃ s,l[l.length - 1]? = some s:=⟨l[l.length - 1],Uq (by omega)⟩
  have hcall:=h s (Us hs)
  have hf:dZ l=ey s:=by rw[rx,List.getLast?_eq_getElem?,hs];rfl
  have hsI:l[((l.length:Int) - 1).toNat]? = some s:=by rw[show ((l.length:Int) - 1).toNat=l.length - 1 by omega,hs]
  have hlen:(0:Int)<l.length:=by omega
  simp(maxSteps:=9^7) (disch:=try exact dI) only[Q16,nH,hsI,Stp.cells_len,Stp.isAgg,push_cast,seval]
  refine ab.pure hcall rfl ?_
  simp(maxSteps:=9^7) (disch:=try exact dI) only[hf,push_cast,seval]
theorem tk:∀ (N:Nat) (s:Stp),SizeOf.sizeOf s<N->s.ok->ap Tryz.prog aB 45 [s.pv] (.bool (ey s))
 | 0,s,h,_=>absurd h (by omega)
 | N+1,s,h,hs=>by
   refine Mm s hs fun b hb=>?_
   obtain⟨a,kind,c,d,e,f,g,i,j,k,m⟩:=s
   rw[Uc] at hs
   simp only[Stp.branches] at hb
   have hbo:=hs.2.2.2.2.2.2.2.2.2.2.2.2.2.2 b hb
   have h1:=Vi hb
   obtain⟨w,l⟩:=b
   rw[TP] at hbo
   refine CC l hbo.2.2.1 fun x hx=>tk N x ?_ (hbo.2.2.2 x hx)
   have h2:=Vi hx
   simp only[Bra.mk.sizeOf_spec,Stp.mk.sizeOf_spec] at h h1
   omega
theorem Pl (s:Stp)(hs:s.ok):ap Tryz.prog aB 45 [s.pv] (.bool (ey s)):=tk _ s (Nat.lt_succ_self _) hs
theorem wE (l:List Stp)(hl:okL l):ap Tryz.prog aB 16 [.list (l.map Stp.pv)] (.bool (dZ l)):=CC l hl.1 fun s hs=>Pl s (hl.2 s hs)
