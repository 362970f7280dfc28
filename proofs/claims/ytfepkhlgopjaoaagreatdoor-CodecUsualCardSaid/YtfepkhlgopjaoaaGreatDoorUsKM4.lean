/- A part of the proof for CodecUsualCardSaid. -/
import Derived.Test.YtfepkhlgopjaoaaGreatDoorUsKM3
import Derived.Test.YtfepkhlgopjaoaaGreatDoorUsK17
set_option linter.unusedVariables false
set_option linter.unusedSimpArgs false
set_option maxRecDepth 100000
-- many steps
namespace Go.Proofs.YtfepkhlgopjaoaaGreatDoor
open Go Go.Ab
attribute [local irreducible] vc
theorem M1 (x:Int):ap Tryz.prog az 32 [.int .i64 x] (.bool (tg x)):=by
 unfold tg
 refine ap.intro Lq (by simp[F32]) ?_
 by_cases h1:x<1
 ·rw[decide_eq_true h1,Bool.true_or]
  simp(maxSteps:=9^7) (disch:=try exact dI) only[F32,h1,push_cast,seval]
 ·rw[decide_eq_false h1,Bool.false_or]
  simp(maxSteps:=9^7) (disch:=try exact dI) only[F32,h1,push_cast,seval]
def go (k s:Int)(w:List Int):Int:=
 if k<1∨4<k then 11 else if (¬ s=0∧¬ k=2)∨(0<w.length∧¬ k=3) then 3 else if k=2∧fq s=false then 2 else if 64<w.length then 9 else if w.any tg=true then 2 else 0
theorem d7 (k s:Int)(w:List Int):(Fmt.mk k s w).pv = .agg [.int .i64 k,.int .i64 s,.list (dy w)]:=by rw[Fmt.pv_mk];rfl
theorem lO (k s:Int)(w:List Int) :
  (k<1∧go k s w=11)∨(¬ k<1∧4<k∧go k s w=11) ∨
  (¬ k<1∧¬ 4<k∧¬ k=2∧¬ s=0∧go k s w=3) ∨
  (¬ k<1∧¬ 4<k∧(k=2∨s=0)∧0<w.length∧¬ k=3∧go k s w=3) ∨
  (k=2∧w=[]∧fq s=false∧go k s w=2) ∨
  (k=2∧w=[]∧fq s=true∧go k s w=0) ∨
  ((k=1∨k=4)∧s=0∧w=[]∧go k s w=0) ∨
  (k=3∧s=0∧64<w.length∧go k s w=9) ∨
  (k=3∧s=0∧¬ 64<w.length∧go k s w=if w.any tg=true then 2 else 0):=by
 by_cases h1:k<1
 ·exact .inl ⟨h1,if_pos (.inl h1)⟩
 by_cases h2:4<k
 ·exact .inr (.inl ⟨h1,h2,if_pos (.inr h2)⟩)
 have h12:¬ (k<1∨4<k):=by omega
 by_cases h3:¬ k=2∧¬ s=0
 ·exact .inr (.inr (.inl ⟨h1,h2,h3.1,h3.2,by unfold go;rw[if_neg h12,if_pos (.inl ⟨h3.2,h3.1⟩)]⟩))
 by_cases h4:0<w.length∧¬ k=3
 ·exact .inr (.inr (.inr (.inl ⟨h1,h2,by omega,h4.1,h4.2,by unfold go;rw[if_neg h12,if_pos (.inr h4)]⟩)))
 have h34:¬ ((¬ s=0∧¬ k=2)∨(0<w.length∧¬ k=3)):=fun q=>q.elim (fun q=>h3 ⟨q.2,q.1⟩) h4
 by_cases hk:k=3
 ·have hs:s=0:=by omega
  by_cases h64:64<w.length
  ·exact .inr (.inr (.inr (.inr (.inr (.inr (.inr (.inl ⟨hk,hs,h64,by unfold go;rw[if_neg h12,if_neg h34,if_neg (fun q=>absurd q.1 (by omega)),if_pos h64]⟩)))))))
  ·exact .inr (.inr (.inr (.inr (.inr (.inr (.inr (.inr ⟨hk,hs,h64,by unfold go;rw[if_neg h12,if_neg h34,if_neg (fun q=>absurd q.1 (by omega)),if_neg h64]⟩)))))))
 have hw:w=[]:=List.length_eq_zero_iff.1 (by omega)
 subst hw
 by_cases k2:k=2
 ·cases hb:fq s with
  | false=>exact .inr (.inr (.inr (.inr (.inl ⟨k2,rfl,rfl,by unfold go;rw[if_neg h12,if_neg h34,if_pos ⟨k2,hb⟩]⟩))))
  | true=>exact .inr (.inr (.inr (.inr (.inr (.inl ⟨k2,rfl,rfl,by unfold go;rw[if_neg h12,if_neg h34,if_neg (fun q=>by rw[hb] at q;cases q.2)];rfl⟩)))))
 ·exact .inr (.inr (.inr (.inr (.inr (.inr (.inl ⟨by omega,by omega,rfl,by unfold go;rw[if_neg h12,if_neg h34,if_neg (fun q=>k2 q.1)];rfl⟩))))))
theorem Hg (k s:Int)(w:List Int)(hl:w.length≤9000000000000):ap Tryz.prog az 11 [(Fmt.mk k s w).pv] (.int .i64 (go k s w)):=by
 have h31:=sk w 32 tg (fun x _=>M1 x) hl
 have h30:=nK s
 have hwl:=bR w
 have hc:=lO k s w
 rw[d7]
 generalize go k s w=z at *
 obtain⟨L,hL⟩:∃ L,L=dy w:=⟨_,rfl⟩
 rw[← hL] at hwl h31 ⊢
 rcases hc with ⟨h1,rfl⟩ | ⟨h1,h2,rfl⟩ | ⟨h1,h2,h3,h4,rfl⟩ | ⟨h1,h2,h3,h4,h5,rfl⟩ | ⟨rfl,rfl,hb,rfl⟩ | ⟨rfl,rfl,hb,rfl⟩ | ⟨h1,rfl,rfl,rfl⟩ | ⟨rfl,rfl,h1,rfl⟩ | ⟨rfl,rfl,h1,hz⟩
 ·refine ap.intro dH (by simp[F11]) ?_
  simp(maxSteps:=9^7) (disch:=try exact dI) only[F11,h1,push_cast,seval]
 ·refine ap.intro dH (by simp[F11]) ?_
  simp(maxSteps:=9^7) (disch:=try exact dI) only[F11,h1,h2,push_cast,seval]
 ·refine ap.intro dH (by simp[F11]) ?_
  simp(maxSteps:=9^7) (disch:=try exact dI) only[F11,h1,h2,h3,h4,push_cast,seval]
 ·have h4I:(0:Int)<(w.length:Int):=by omega
  rcases h3 with rfl | rfl
  ·refine ap.intro dH (by simp[F11]) ?_
   by_cases hs:s=0
   ·simp(maxSteps:=9^7) (disch:=try exact dI) only[F11,hs,hwl,h4I,push_cast,seval]
   ·simp(maxSteps:=9^7) (disch:=try exact dI) only[F11,hs,hwl,h4I,push_cast,seval]
  ·refine ap.intro dH (by simp[F11]) ?_
   simp(maxSteps:=9^7) (disch:=try exact dI) only[F11,h1,h2,h5,hwl,h4I,push_cast,seval]
 ·simp only[List.length_nil,List.any_nil] at hwl h31
  rw[hb] at h30
  refine ap.intro dH (by simp[F11]) ?_
  by_cases hs:s=0
  ·simp(maxSteps:=9^7) (disch:=try exact dI) only[F11,hs,hwl,push_cast,seval]
   rw[hs] at h30
   refine ae.pure h30 rfl ?_
   simp(maxSteps:=9^7) (disch:=try exact dI) only[push_cast,seval]
  ·simp(maxSteps:=9^7) (disch:=try exact dI) only[F11,hs,hwl,push_cast,seval]
   refine ae.pure h30 rfl ?_
   simp(maxSteps:=9^7) (disch:=try exact dI) only[push_cast,seval]
 ·simp only[List.length_nil,List.any_nil] at hwl h31
  rw[hb] at h30
  refine ap.intro dH (by simp[F11]) ?_
  by_cases hs:s=0
  ·simp(maxSteps:=9^7) (disch:=try exact dI) only[F11,hs,hwl,push_cast,seval]
   rw[hs] at h30
   refine ae.pure h30 rfl ?_
   simp(maxSteps:=9^7) (disch:=try exact dI) only[push_cast,seval]
   refine ae.pure h31 rfl ?_
   simp(maxSteps:=9^7) (disch:=try exact dI) only[push_cast,seval]
  ·simp(maxSteps:=9^7) (disch:=try exact dI) only[F11,hs,hwl,push_cast,seval]
   refine ae.pure h30 rfl ?_
   simp(maxSteps:=9^7) (disch:=try exact dI) only[push_cast,seval]
   refine ae.pure h31 rfl ?_
   simp(maxSteps:=9^7) (disch:=try exact dI) only[push_cast,seval]
 ·simp only[List.length_nil,List.any_nil] at hwl h31
  refine ap.intro dH (by simp[F11]) ?_
  rcases h1 with rfl | rfl
  ·simp(maxSteps:=9^7) (disch:=try exact dI) only[F11,hwl,push_cast,seval]
   refine ae.pure h31 rfl ?_
   simp(maxSteps:=9^7) (disch:=try exact dI) only[push_cast,seval]
  ·simp(maxSteps:=9^7) (disch:=try exact dI) only[F11,hwl,push_cast,seval]
   refine ae.pure h31 rfl ?_
   simp(maxSteps:=9^7) (disch:=try exact dI) only[push_cast,seval]
 ·have h1I:(64:Int)<(w.length:Int):=by omega
  refine ap.intro dH (by simp[F11]) ?_
  by_cases h0:0<w.length
  ·have h0I:(0:Int)<(w.length:Int):=by omega
   simp(maxSteps:=9^7) (disch:=try exact dI) only[F11,hwl,h1I,h0I,push_cast,seval]
  ·omega
 ·have h1I:¬ (64:Int)<(w.length:Int):=by omega
  subst hz
  cases hb:w.any tg with
  | true=>
    rw[hb] at h31
    rw[if_pos rfl]
    refine ap.intro dH (by simp[F11]) ?_
    by_cases h0:(0:Int)<(w.length:Int)
    ·simp(maxSteps:=9^7) (disch:=try exact dI) only[F11,hwl,h1I,h0,push_cast,seval]
     refine ae.pure h31 rfl ?_
     simp(maxSteps:=9^7) (disch:=try exact dI) only[push_cast,seval]
    ·simp(maxSteps:=9^7) (disch:=try exact dI) only[F11,hwl,h1I,h0,push_cast,seval]
     refine ae.pure h31 rfl ?_
     simp(maxSteps:=9^7) (disch:=try exact dI) only[push_cast,seval]
  | false=>
    rw[hb] at h31
    rw[if_neg (by decide)]
    refine ap.intro dH (by simp[F11]) ?_
    by_cases h0:(0:Int)<(w.length:Int)
    ·simp(maxSteps:=9^7) (disch:=try exact dI) only[F11,hwl,h1I,h0,push_cast,seval]
     refine ae.pure h31 rfl ?_
     simp(maxSteps:=9^7) (disch:=try exact dI) only[push_cast,seval]
    ·simp(maxSteps:=9^7) (disch:=try exact dI) only[F11,hwl,h1I,h0,push_cast,seval]
     refine ae.pure h31 rfl ?_
     simp(maxSteps:=9^7) (disch:=try exact dI) only[push_cast,seval]
end Go.Proofs.YtfepkhlgopjaoaaGreatDoor
-- many steps
namespace Go.Proofs.YtfepkhlgopjaoaaGreatDoor
open Go Go.Ab
attribute [local irreducible] vc
def nL (l:List Int):List PV:=l.map (PV.int .i64)
theorem lu (l:List Int):(nL l).length=l.length:=by simp[nL]
theorem oW {l:List Int}{i:Nat}{x:Int}(h:l[i]? = some x):(nL l)[i]? = some (.int .i64 x):=by simp[nL,h]
def eqI:List Int→List Int→Bool
 | [],[]=>true
 | x::r,y::q=>decide (x=y)&&eqI r q
 | _,_=>false
theorem CU {a b:List Int}{i:Nat}{x y:Int}(hx:a[i]? = some x)(hy:b[i]? = some y):eqI (a.drop i) (b.drop i)=(decide (x=y)&&eqI (a.drop (i+1)) (b.drop (i+1))):=by
 have hi:=(List.getElem?_eq_some_iff.1 hx).1
 have he:a[i]=x:=(List.getElem?_eq_some_iff.1 hx).2
 have hj:=(List.getElem?_eq_some_iff.1 hy).1
 have hf:b[i]=y:=(List.getElem?_eq_some_iff.1 hy).2
 rw[List.drop_eq_getElem_cons hi,List.drop_eq_getElem_cons hj,he,hf,eqI]
theorem xO:∀ {a b:List Int},¬ a.length=b.length→eqI a b=false
 | [],[],h=>absurd rfl h
 | [],_::_,_=>rfl
 | _::_,[],_=>rfl
 | x::r,y::q,h=>by rw[eqI,xO (a:=r) (b:=q) (by simpa using h),Bool.and_false]
theorem pi:∀ (a:List Int),eqI a a=true
 | []=>rfl
 | x::r=>by rw[eqI,pi r,decide_eq_true rfl];rfl
set_option maxHeartbeats 2000000 in
theorem GZ (a b:List Int)(hb:b.length≤1000000):ap Tryz.prog az 55 [.list (nL a),.list (nL b)] (.bool (eqI a b)):=by
 by_cases hl:a.length=b.length
 ·have hlI:(a.length:Int)=(b.length:Int):=by omega
  obtain⟨R,hR⟩:∃ R,R=eqI a b:=⟨_,rfl⟩
  rw[← hR]
  refine ap.intro Ev (by simp[F55]) ?_
  simp(maxSteps:=9^7) (disch:=try exact dI) only[F55,lu,hlI,push_cast,seval]
  refine aB ([]) (fun i:Nat=>[(13,.pv (.int .i64 (i:Int)))]) (fun _=>[]) (fun i=>i≤b.length∧R=eqI (a.drop i) (b.drop i)) (fun i=>b.length - i) (0) ?_;intro e0 σ0 n0 h0;simp(maxSteps:=9^7) (disch:=try exact dI) only[push_cast,seval] at h0;obtain⟨rfl,rfl,rfl⟩:=h0;refine⟨?_,?_,?_⟩
  ·simp(maxSteps:=9^7) (disch:=try exact dI) only[push_cast,seval]
  ·exact⟨by omega,by simpa using hR⟩
  rintro i ⟨hi,hr⟩
  by_cases hlt:i<b.length
  ·have hltI:(i:Int)<(b.length:Int):=by omega
   obtain⟨x,hx⟩:∃ x,a[i]? = some x:=⟨_,List.getElem?_eq_getElem (by omega)⟩
   obtain⟨y,hy⟩:∃ y,b[i]? = some y:=⟨_,List.getElem?_eq_getElem hlt⟩
   rw[CU hx hy] at hr
   have hx':=oW hx
   have hy':=oW hy
   by_cases he:x=y
   ·rw[decide_eq_true he,Bool.true_and] at hr
    simp(maxSteps:=9^7) (disch:=try exact dI) only[hx',hy',he,push_cast,seval]
    exact⟨i+1,bH qsZ,⟨by omega,hr⟩,by omega⟩
   ·rw[decide_eq_false he,Bool.false_and] at hr
    subst hr
    simp(maxSteps:=9^7) (disch:=try exact dI) only[hx',hy',he,push_cast,seval]
  ·have h1:i=b.length:=by omega
   subst h1
   rw[List.drop_length,List.drop_of_length_le (by omega)] at hr
   rw[show R=true from hr]
   simp(maxSteps:=9^7) (disch:=try exact dI) only[Int.lt_irrefl,push_cast,seval]
 ·have hlI:¬ (a.length:Int)=(b.length:Int):=by omega
  rw[xO hl]
  refine ap.intro Ev (by simp[F55]) ?_
  simp(maxSteps:=9^7) (disch:=try exact dI) only[F55,lu,hlI,push_cast,seval]
def eqF (k s:Int)(w:List Int)(k' s':Int)(w':List Int):Bool:=decide (k=k')&&(decide (s=s')&&eqI w w')
def MM (k s:Int)(w:List Int):PV:=.agg [.int .i64 k,.int .i64 s,.list (nL w)]
theorem xJ (k s:Int)(w:List Int)(k' s':Int)(w':List Int)(hb:w'.length≤1000000):ap Tryz.prog az 27 [MM k s w,MM k' s' w'] (.bool (eqF k s w k' s' w')):=by
 have h47:=GZ w w' hb
 simp only[eqF,MM]
 generalize eqI w w'=q at h47 ⊢
 refine ap.intro Lu (by simp[F27]) ?_
 by_cases h1:k=k'
 ·rw[decide_eq_true h1,Bool.true_and]
  by_cases h2:s=s'
  ·rw[decide_eq_true h2,Bool.true_and]
   simp(maxSteps:=9^7) (disch:=try exact dI) only[F27,h1,h2,push_cast,seval]
   refine ae.pure h47 rfl ?_
   simp(maxSteps:=9^7) (disch:=try exact dI) only[push_cast,seval]
  ·rw[decide_eq_false h2,Bool.false_and]
   simp(maxSteps:=9^7) (disch:=try exact dI) only[F27,h1,h2,push_cast,seval]
 ·rw[decide_eq_false h1,Bool.false_and]
  simp(maxSteps:=9^7) (disch:=try exact dI) only[F27,h1,push_cast,seval]
theorem pj (k s:Int)(w:List Int):eqF k s w k s w=true:=by
 unfold eqF;rw[pi,decide_eq_true rfl,decide_eq_true rfl];rfl
end Go.Proofs.YtfepkhlgopjaoaaGreatDoor
