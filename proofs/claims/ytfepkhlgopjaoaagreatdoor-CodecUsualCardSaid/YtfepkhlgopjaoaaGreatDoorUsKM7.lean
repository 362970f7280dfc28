/- A part of the proof for CodecUsualCardSaid. -/
import Derived.Test.YtfepkhlgopjaoaaGreatDoorUsKM5
set_option linter.unusedVariables false
set_option linter.unusedSimpArgs false
set_option maxRecDepth 100000
-- many steps
namespace Go.Proofs.YtfepkhlgopjaoaaGreatDoor
open Go Go.Ab
attribute [local irreducible] vc
def fmZ (k s:Int):PV:=.agg [.int .i64 k,.int .i64 s,.nils]
theorem lz (k s:Int):Nz (fmZ k s) (.agg [.int .i64 k,.int .i64 s,.list (dy [])]):=by
 unfold fmZ
 repeat' constructor
theorem DV (k s:Int)(nm:List UInt8)(v:Int)(t:Typ)(ht:t.ok):ap Tryz.prog az 13 [fmZ k s,(Sch.mk nm v t).pv] (.int .i64 (gh k s [] nm v t)):=by
 have h:=FC k s [] (by simp) nm v t ht
 rw[d7] at h
 exact h.nz (.cons _ _ _ _ (lz k s) (.cons _ _ _ _ (.refl _) .nil))
theorem Jn (k s:Int)(nm:List UInt8)(v:Int)(t:Typ)(ht:t.ok):ap Tryz.prog az 14 [fmZ k s,(Sch.mk nm v t).pv] (.int .i64 (gh k s [] nm v t)):=by
 have h:=Jo k s [] (by simp) nm v t ht
 rw[d7] at h
 exact h.nz (.cons _ _ _ _ (lz k s) (.cons _ _ _ _ (.refl _) .nil))
theorem G1 (k s:Int):ap Tryz.prog az 27 [fmZ k s,fmZ k s] (.bool true):=by
 have h:=xJ k s [] k s [] (by simp)
 rw[pj] at h
 exact h.nz (.cons _ _ _ _ (lz k s) (.cons _ _ _ _ (lz k s) .nil))
theorem MS (k s:Int)(w:List Int)(hw:w.length≤1000000):ap Tryz.prog az 27 [.agg [.int .i64 k,.int .i64 s,.list (dy w)],.agg [.int .i64 k,.int .i64 s,.list (dy w)]] (.bool true):=by
 have h:=xJ k s w k s w hw
 rw[pj] at h
 exact h
noncomputable def b9 (t:Typ):List Int:=t.fields.map fun g=>j8 g.typ
theorem j9 (t:Typ):pP t.fields=dy (b9 t):=by unfold pP b9 dy;rw[List.map_map];rfl
inductive UsuC (kind:Int)(nm:List UInt8)(v:Int)(t:Typ):PV→Int→Prop
 | kindE (h:kind<1∨4<kind):UsuC kind nm v t (fmZ 0 0) 11
 | scm (h1:¬ kind<1) (h4:¬ 4<kind) (h:¬ j2 nm v t=0):UsuC kind nm v t (fmZ 0 0) (j2 nm v t)
 | wid (h3:kind=3) (hs:j2 nm v t=0) (h:¬ flE t=0):UsuC kind nm v t (fmZ 0 0) (flE t)
 | rep3 (h3:kind=3) (hs:j2 nm v t=0) (hf:flE t=0) (h:¬ gh 3 0 (b9 t) nm v t=0):UsuC kind nm v t (fmZ 0 0) (gh 3 0 (b9 t) nm v t)
 | ok3 (h3:kind=3) (hs:j2 nm v t=0) (hf:flE t=0) (h:gh 3 0 (b9 t) nm v t=0):UsuC kind nm v t (.agg [.int .i64 3,.int .i64 0,.list (dy (b9 t))]) 0
 | rep2 (h2:kind=2) (hs:j2 nm v t=0) (h:¬ gh 2 44 [] nm v t=0):UsuC kind nm v t (fmZ 0 0) (gh 2 44 [] nm v t)
 | ok2 (h2:kind=2) (hs:j2 nm v t=0) (h:gh 2 44 [] nm v t=0):UsuC kind nm v t (fmZ 2 44) 0
 | rep1 (h1:kind=1∨kind=4) (hs:j2 nm v t=0) (h:¬ gh kind 0 [] nm v t=0):UsuC kind nm v t (fmZ 0 0) (gh kind 0 [] nm v t)
 | ok1 (h1:kind=1∨kind=4) (hs:j2 nm v t=0) (h:gh kind 0 [] nm v t=0):UsuC kind nm v t (fmZ kind 0) 0
theorem IF (kind:Int)(nm:List UInt8)(v:Int)(t:Typ):∃ f e,UsuC kind nm v t f e:=by
 by_cases h1:kind<1
 ·exact⟨_,_,.kindE (.inl h1)⟩
 by_cases h4:4<kind
 ·exact⟨_,_,.kindE (.inr h4)⟩
 by_cases hs:j2 nm v t=0
 ·by_cases h3:kind=3
  ·by_cases hf:flE t=0
   ·by_cases h:gh 3 0 (b9 t) nm v t=0
    ·exact⟨_,_,.ok3 h3 hs hf h⟩
    ·exact⟨_,_,.rep3 h3 hs hf h⟩
   ·exact⟨_,_,.wid h3 hs hf⟩
  ·by_cases h2:kind=2
   ·by_cases h:gh 2 44 [] nm v t=0
    ·exact⟨_,_,.ok2 h2 hs h⟩
    ·exact⟨_,_,.rep2 h2 hs h⟩
   ·by_cases h:gh kind 0 [] nm v t=0
    ·exact⟨_,_,.ok1 (by omega) hs h⟩
    ·exact⟨_,_,.rep1 (by omega) hs h⟩
 ·exact⟨_,_,.scm h1 h4 hs⟩
theorem EN (kind:Int)(nm:List UInt8)(v:Int)(t:Typ)(ht:t.ok)(hl:(b9 t).length≤9000000000000){f:PV}{e:Int}(hc:UsuC kind nm v t f e):ap Tryz.prog az 25 [.int .i64 kind,(Sch.mk nm v t).pv] (.tup [f,.int .i64 e]):=by
 have h21:=bI nm v t ht
 have hz:=fun k s=>DV k s nm v t ht
 have h3:=FC 3 0 (b9 t) hl nm v t ht
 have hwe:=jh t ht
 have hwo:=il t ht
 rw[d7] at h3
 rw[j9] at hwo
 simp only[Sch.pv_mk] at h21 h3 hz ⊢
 cases hc with
 | kindE h=>
   clear h21 hz h3 hwe hwo hl ht
   unfold fmZ
   obtain⟨tk,m,M,sc,wd,el,fl⟩:=t
   simp only[Typ.pv_mk]
   refine ap.intro eY (by simp[F25]) ?_
   rcases h with h | h
   ·simp(maxSteps:=9^7) (disch:=try exact dI) only[F25,ag,h,push_cast,seval]
   ·have h':¬ kind<1:=by omega
    simp(maxSteps:=9^7) (disch:=try exact dI) only[F25,ag,h,h',push_cast,seval]
 | scm h1 h4 h=>
   generalize j2 nm v t=z at *
   clear hz h3 hwe hwo hl ht
   unfold fmZ
   obtain⟨tk,m,M,sc,wd,el,fl⟩:=t
   simp only[Typ.pv_mk] at h21 ⊢
   refine ap.intro eY (by simp[F25]) ?_
   simp(maxSteps:=9^7) (disch:=try exact dI) only[F25,ag,h1,h4,push_cast,seval]
   first | refine ae.pure h21 rfl ?_ | refine ab h21 rfl ?_
   simp(maxSteps:=9^7) (disch:=try exact dI) only[h,push_cast,seval]
 | wid hk hs h=>
   have hw:=hwe h
   rw[hs] at h21
   subst hk
   generalize flE t=z at *
   clear hz h3 hwe hwo hl ht hs
   unfold fmZ
   obtain⟨tk,m,M,sc,wd,el,fl⟩:=t
   simp only[Typ.pv_mk] at h21 hw ⊢
   refine ap.intro eY (by simp[F25]) ?_
   simp(maxSteps:=9^7) (disch:=try exact dI) only[F25,ag,push_cast,seval]
   first | refine ae.pure h21 rfl ?_ | refine ab h21 rfl ?_
   simp(maxSteps:=9^7) (disch:=try exact dI) only[push_cast,seval]
   first | refine ae.pure hw rfl ?_ | refine ab hw rfl ?_
   simp(maxSteps:=9^7) (disch:=try exact dI) only[h,push_cast,seval]
 | rep3 hk hs hf h=>
   have hw:=hwo hf
   rw[hs] at h21
   subst hk
   generalize gh 3 0 (b9 t) nm v t=z at *
   generalize b9 t=wds at *
   clear hz hwe hwo hl ht hs hf
   unfold fmZ
   obtain⟨tk,m,M,sc,wd,el,fl⟩:=t
   simp only[Typ.pv_mk] at h21 h3 hw ⊢
   refine ap.intro eY (by simp[F25]) ?_
   simp(maxSteps:=9^7) (disch:=try exact dI) only[F25,ag,push_cast,seval]
   first | refine ae.pure h21 rfl ?_ | refine ab h21 rfl ?_
   simp(maxSteps:=9^7) (disch:=try exact dI) only[push_cast,seval]
   first | refine ae.pure hw rfl ?_ | refine ab hw rfl ?_
   simp(maxSteps:=9^7) (disch:=try exact dI) only[push_cast,seval]
   first | refine ae.pure h3 rfl ?_ | refine ab h3 rfl ?_
   simp(maxSteps:=9^7) (disch:=try exact dI) only[h,push_cast,seval]
 | ok3 hk hs hf h=>
   have hw:=hwo hf
   rw[hs] at h21
   rw[h] at h3
   subst hk
   generalize b9 t=wds at *
   clear hz hwe hwo hl ht hs hf h
   obtain⟨tk,m,M,sc,wd,el,fl⟩:=t
   simp only[Typ.pv_mk] at h21 h3 hw ⊢
   refine ap.intro eY (by simp[F25]) ?_
   simp(maxSteps:=9^7) (disch:=try exact dI) only[F25,ag,push_cast,seval]
   first | refine ae.pure h21 rfl ?_ | refine ab h21 rfl ?_
   simp(maxSteps:=9^7) (disch:=try exact dI) only[push_cast,seval]
   first | refine ae.pure hw rfl ?_ | refine ab hw rfl ?_
   simp(maxSteps:=9^7) (disch:=try exact dI) only[push_cast,seval]
   first | refine ae.pure h3 rfl ?_ | refine ab h3 rfl ?_
   simp(maxSteps:=9^7) (disch:=try exact dI) only[push_cast,seval]
 | rep2 hk hs h=>
   have hw:=hz 2 44
   rw[hs] at h21
   subst hk
   generalize gh 2 44 [] nm v t=z at *
   clear hz hwe hwo hl ht hs h3
   simp only[fmZ] at hw ⊢
   obtain⟨tk,m,M,sc,wd,el,fl⟩:=t
   simp only[Typ.pv_mk] at h21 hw ⊢
   refine ap.intro eY (by simp[F25]) ?_
   simp(maxSteps:=9^7) (disch:=try exact dI) only[F25,ag,push_cast,seval]
   first | refine ae.pure h21 rfl ?_ | refine ab h21 rfl ?_
   simp(maxSteps:=9^7) (disch:=try exact dI) only[push_cast,seval]
   first | refine ae.pure hw rfl ?_ | refine ab hw rfl ?_
   simp(maxSteps:=9^7) (disch:=try exact dI) only[h,push_cast,seval]
 | ok2 hk hs h=>
   have hw:=hz 2 44
   rw[hs] at h21
   rw[h] at hw
   subst hk
   clear hz hwe hwo hl ht hs h3 h
   simp only[fmZ] at hw ⊢
   obtain⟨tk,m,M,sc,wd,el,fl⟩:=t
   simp only[Typ.pv_mk] at h21 hw ⊢
   refine ap.intro eY (by simp[F25]) ?_
   simp(maxSteps:=9^7) (disch:=try exact dI) only[F25,ag,push_cast,seval]
   first | refine ae.pure h21 rfl ?_ | refine ab h21 rfl ?_
   simp(maxSteps:=9^7) (disch:=try exact dI) only[push_cast,seval]
   first | refine ae.pure hw rfl ?_ | refine ab hw rfl ?_
   simp(maxSteps:=9^7) (disch:=try exact dI) only[push_cast,seval]
 | rep1 hk hs h=>
   have hw:=hz kind 0
   rw[hs] at h21
   generalize gh kind 0 [] nm v t=z at *
   clear hz hwe hwo hl ht hs h3
   simp only[fmZ] at hw ⊢
   obtain⟨tk,m,M,sc,wd,el,fl⟩:=t
   simp only[Typ.pv_mk] at h21 hw ⊢
   refine ap.intro eY (by simp[F25]) ?_
   rcases hk with rfl | rfl
   all_goals
    simp(maxSteps:=9^7) (disch:=try exact dI) only[F25,ag,push_cast,seval]
    first | refine ae.pure h21 rfl ?_ | refine ab h21 rfl ?_
    simp(maxSteps:=9^7) (disch:=try exact dI) only[push_cast,seval]
    first | refine ae.pure hw rfl ?_ | refine ab hw rfl ?_
    simp(maxSteps:=9^7) (disch:=try exact dI) only[h,push_cast,seval]
 | ok1 hk hs h=>
   have hw:=hz kind 0
   rw[hs] at h21
   rw[h] at hw
   clear hz hwe hwo hl ht hs h3 h
   simp only[fmZ] at hw ⊢
   obtain⟨tk,m,M,sc,wd,el,fl⟩:=t
   simp only[Typ.pv_mk] at h21 hw ⊢
   refine ap.intro eY (by simp[F25]) ?_
   rcases hk with rfl | rfl
   all_goals
    simp(maxSteps:=9^7) (disch:=try exact dI) only[F25,ag,push_cast,seval]
    first | refine ae.pure h21 rfl ?_ | refine ab h21 rfl ?_
    simp(maxSteps:=9^7) (disch:=try exact dI) only[push_cast,seval]
    first | refine ae.pure hw rfl ?_ | refine ab hw rfl ?_
    simp(maxSteps:=9^7) (disch:=try exact dI) only[push_cast,seval]
end Go.Proofs.YtfepkhlgopjaoaaGreatDoor
