/- A part of the proof for LiteralDiffersCardSaid. -/
import Derived.Test.YtamoeblcphjbaaaGreatDoorDiLE5
import Derived.Test.YtamoeblcphjbaaaGreatDoorDiLE1
import Derived.Test.YtamoeblcphjbaaaGreatDoorDiLSr2
import Derived.Test.YtamoeblcphjbaaaGreatDoorDiL10
set_option maxRecDepth 100000
set_option linter.unusedVariables false
set_option linter.unusedSimpArgs false
namespace Go.Proofs.YtamoeblcphjbaaaGreatDoor
open Go Go.Ab Go.RowKit
theorem oG:∀ (a b:List UInt8),Op.bytesLess a b=decide (Lib.compareBytes a b<0)
 | [],[]=>rfl
 | _::_,[]=>rfl
 | [],_::_=>rfl
 | a::x,b::y=>by
   rw[Op.bytesLess,oG x y]
   simp only[Lib.compareBytes]
   by_cases h1:a<b
   ·simp[h1]
   ·by_cases h2:b<a
    ·have h3:¬ a=b:=by rintro rfl;exact h1 h2
     simp[h1,h2,h3]
    ·have h3:a=b:=UInt8.le_antisymm (UInt8.not_lt.1 h2) (UInt8.not_lt.1 h1)
     subst h3
     simp[h1]
theorem GN {a b:List UInt8}(h1:¬ Lib.compareBytes a b<0)(h2:a≠b):Lib.compareBytes b a<0:=by
 have key:∀ a b:List UInt8,¬ Lib.compareBytes a b<0→a≠b→Lib.compareBytes b a<0:=by
  intro a
  induction a with
  | nil=>
    intro b h1 h2
    cases b with
    | nil=>exact absurd rfl h2
    | cons y q=>simp[Lib.compareBytes] at h1
  | cons x p ih=>
    intro b h1 h2
    cases b with
    | nil=>simp[Lib.compareBytes]
    | cons y q=>
      simp only[Lib.compareBytes] at h1 ⊢
      by_cases c1:x<y
      ·rw[if_pos c1] at h1;exact absurd (by decide) h1
      ·by_cases c2:y<x
       ·rw[if_pos c2];decide
       ·have h3:x=y:=UInt8.le_antisymm (UInt8.not_lt.1 c2) (UInt8.not_lt.1 c1)
        subst h3
        rw[if_neg c1,if_neg c1] at h1 ⊢
        exact ih q h1 (fun e=>h2 (by rw[e]))
 exact key a b h1 h2
def BI:Option (List UInt8)→List (List UInt8)→Prop
 | _,[]=>True
 | p,s::r=>bj s=true∧(∀ q,p=some q→Lib.compareBytes q s<0)∧BI (some s) r
theorem BG:∀ (L:List (List UInt8)) (p:Option (List UInt8)),ct p L=0→BI p L
 | [],p,_=>trivial
 | s::r,p,h=>by
   rw[ct] at h
   by_cases h1:bj s=false
   ·rw[if_pos h1] at h;omega
   rw[if_neg h1] at h
   by_cases h2:p=some s
   ·rw[if_pos h2] at h;omega
   rw[if_neg h2] at h
   by_cases h3:(p.any fun q=>cj s q)=true
   ·rw[if_pos h3] at h;omega
   rw[if_neg h3] at h
   refine⟨by simpa using h1,fun q hq=>?_,BG r _ h⟩
   subst hq
   have h4:Op.bytesLess s q=false:=by simpa[cj] using h3
   rw[oG] at h4
   exact GN (of_decide_eq_false h4) (fun e=>h2 (by rw[e]))
theorem BH:∀ (L:List (List UInt8)) (p:Option (List UInt8)) (q:List UInt8),BI p L→p=some q→∀ s∈L,Lib.compareBytes q s<0
 | [],_,_,_,_,s,hs=>by cases hs
 | a::r,p,q,h,hp,s,hs=>by
   obtain⟨h1,h2,h3⟩:=h
   rcases List.mem_cons.1 hs with rfl | hs
   ·exact h2 q hp
   ·exact gl _ _ _ (h2 q hp) (BH r _ a h3 rfl s hs)
theorem wp:∀ (L:List (List UInt8)) (p:Option (List UInt8)),BI p L→L.Pairwise fun a b=>Lib.compareBytes a b<0
 | [],_,_=>.nil
 | a::r,p,h=>List.pairwise_cons.2 ⟨fun s hs=>BH r _ a h.2.2 rfl s hs,wp r _ h.2.2⟩
theorem Fd {l:List Fld}(h:BI none (l.map Fld.name)):srt l=l:=by
 have hp:=wp _ _ h
 have hp2:l.Pairwise fun a b=>Lib.compareBytes a.name b.name<0:=by
  rw[List.pairwise_map] at hp;exact hp
 have hs:(srt l).Pairwise fun a b=>¬ Lib.compareBytes b.name a.name<0:=by
  rw[List.pairwise_iff_getElem]
  intro i j hi hj hij
  exact pM l i j _ _ hij (List.getElem?_eq_getElem hi) (List.getElem?_eq_getElem hj)
 refine List.Perm.eq_of_pairwise (le:=fun a b=>¬ Lib.compareBytes b.name a.name<0) ?_ hs (hp2.imp fun {a b} hab hba=>?_) (nV l)
 ·intro a b ha hb h1 h2
  have hb':=hb
  have ha':=(nV l).mem_iff.1 ha
  obtain⟨i,hi,rfl⟩:=List.getElem_of_mem ha'
  obtain⟨j,hj,rfl⟩:=List.getElem_of_mem hb'
  have hpw:=List.pairwise_iff_getElem.1 hp2
  rcases Nat.lt_trichotomy i j with h | h | h
  ·exact absurd (hpw i j hi hj h) h2
  ·subst h;rfl
  ·exact absurd (hpw j i hj hi h) h1
 ·have:=gl _ _ _ hab hba
  rw[j4] at this
  exact absurd this (by decide)
theorem eT {R:Rd}{t:List UInt8}(h:R.now.kind≠5∧R.now.kind≠1):isT R t=false:=by
 unfold isT
 rw[decide_eq_false h.1,decide_eq_false h.2];simp
theorem bO {R:Rd}{t:List UInt8}(h:R.now.text≠t):isT R t=false:=by
 unfold isT
 rw[decide_eq_false h];simp
theorem u9 {R:Rd}{t:List UInt8}(h0:R.e=0)(hk:R.now.kind=5)(ht:R.now.text=t):isT R t=true:=by
 unfold isT
 rw[decide_eq_true h0,decide_eq_true hk,decide_eq_true ht];rfl
theorem BQ {s r:List UInt8}{j:Nat}(h:s.drop j=r)(hr:jA r):(A s j).e=0∧isT (A s j) [40]=false:=by
 cases r with
 | nil=>
   rw[HY (List.drop_eq_nil_iff.1 h)]
   exact⟨rfl,eT ⟨by simp,by simp⟩⟩
 | cons c r'=>
   have hc:=hr c rfl
   have hs:EL c=true:=by rcases hc with rfl | rfl | rfl | rfl<;>rfl
   rw[rD h hs]
   refine⟨rfl,bO ?_⟩
   simp only
   rcases hc with rfl | rfl | rfl | rfl<;>decide
def bc (s:List UInt8)(f d:Nat)(v:Val)(X:List UInt8):Prop:=
 ∀ i r,s.drop i=X++r→jA r→bz srt f d (A s i)=(v,A s (i+X.length))∧(A s i).e=0∧isT (A s i) [93]=false
theorem gV {w:List UInt8}(h:bj w=true):∃ c r,w=c::r∧cD c=true∧w.all iF=true:=by
 unfold bj at h
 simp only[Bool.and_eq_true,decide_eq_true_eq] at h
 obtain⟨h1,h2,h3,h4⟩:=h
 cases w with
 | nil=>simp at h1
 | cons c r=>
   have k1:∀ c:UInt8,rF c=true→cD c=true:=gu (by decide +kernel)
   have k2:∀ c:UInt8,okC c=true→iF c=true:=gu (by decide +kernel)
   refine⟨c,r,rfl,k1 c h3,?_⟩
   rw[List.all_eq_true] at h4 ⊢
   exact fun x hx=>k2 x (h4 x hx)
theorem go {w:List UInt8}{c:UInt8}{w' r:List UInt8}(hw:w=c::w')(ha:w.all iF=true)(hr:r.head?≠some 34):¬ (c.toNat=120∧(w'++r).head? = some 34):=by
 rintro⟨_,h⟩
 cases w' with
 | nil=>exact hr h
 | cons b q=>
   rw[hw] at ha
   simp only[List.all_cons,Bool.and_eq_true] at ha
   have:b=34:=Option.some.inj h
   subst this
   exact absurd ha.2.1 (by decide)
theorem Cd {r:List UInt8}(h:jA r):r.head?≠some 34:=by
 intro q
 have:=h 34 q
 revert this;decide
theorem sD {r:List UInt8}(h:jA r):(r.head?.any iF)=false:=sE h (by decide)
theorem cN {s:List UInt8}{n:Nat}{w:Tk}:fE ⟨s,n,w,0,0⟩=A s n:=Jl rfl rfl
theorem kM {s:List UInt8}{f d:Nat}{v:Val}{w:List UInt8}{c:UInt8}{w':List UInt8}(hw:w=c::w')(hc:cD c=true)(ha:w.all iF=true)
  (hv:∀ (R:Rd) (t:Tk),R.e=0→isT R [40]=false→t.text=w→fJ (bz srt f (d+1)) R t d=(v,R)):bc s (f+1) d v w:=by
 intro i r h hr
 have hA:=wI h hw hc (go hw ha (Cd hr)) ha (sD hr)
 have hst:=BQ (bg h) hr
 have hne:w≠[91]∧w≠[123]∧w≠[93]:=by
  rw[hw]
  refine⟨fun q=>?_,fun q=>?_,fun q=>?_⟩ <;>
  ·have:=(List.cons.inj q).1
   subst this
   exact absurd hc (by decide)
 rw[hA]
 refine⟨?_,rfl,bO hne.2.2⟩
 rw[eF rfl (.inr (.inr (.inr (.inl rfl))))]
 unfold d9
 rw[if_neg (fun q=>absurd q.1 (by simp)),if_neg (by simp),if_neg (by simp),if_neg (by simp),if_neg hne.1,if_neg hne.2.1,cN]
 exact hv _ _ hst.1 hst.2 rfl
theorem tm {s:List UInt8}{f d:Nat}:bc s (f+1) d (.mk 1 1 0 [] [] []) [116,114,117,101]:=
 kM rfl (by decide) (by decide) fun R t h0 hi ht=>by rw[jL h0 hi,if_pos ht]
theorem pT {s:List UInt8}{f d:Nat}:bc s (f+1) d (.mk 1 0 0 [] [] []) [102,97,108,115,101]:=
 kM rfl (by decide) (by decide) fun R t h0 hi ht=>by rw[jL h0 hi,if_neg (by rw[ht];decide),if_pos ht]
theorem ov {n:Int}{sc:Nat}(h:IsN n sc)(b:Bool):∃ c r,cu n sc++(if b=true then [100] else [])=c::r∧c≠93:=by
 obtain⟨sg,N,F,e,hsg,⟨c0,N',hN,hc0⟩,_⟩:=lQ h
 rw[e,hN]
 rcases hsg with rfl | rfl
 ·refine⟨c0,_,rfl,?_⟩
  rintro rfl
  exact absurd hc0 (by decide)
 ·exact⟨45,_,rfl,by decide⟩
theorem vl {X:List UInt8}{c d:UInt8}{r:List UInt8}(h:X=c::r)(hc:c≠d):X≠[d]:=by
 rw[h];intro q;exact hc (List.cons.inj q).1
theorem yd {s:List UInt8}{f d:Nat}{n:Int}(h:IsN n 0):bc s (f+1) d (.mk 2 n 0 [] [] []) (bS n):=by
 intro i r hs hr
 rw[zZ h] at hs ⊢
 have hA:=HX h false (by simp) (by simpa using hs) hr
 simp only[Bool.false_eq_true,if_false,List.append_nil,Bool.false_or] at hA
 rw[hA]
 obtain⟨c,r',hc,hne⟩:=ov h false
 simp only[Bool.false_eq_true,if_false,List.append_nil] at hc
 refine⟨?_,rfl,bO (vl hc hne)⟩
 rw[eF rfl (.inl rfl)]
 unfold d9
 rw[if_neg (by simp),if_pos rfl,cN]
theorem yf {s:List UInt8}{f d:Nat}{n:Int}{sc:Nat}(h:IsN n sc):bc s (f+1) d (.mk 3 n sc [] [] []) (cu n sc++(if sc=0 then [100] else [])):=by
 intro i r hs hr
 have hb:(if sc=0 then ([100]:List UInt8) else [])=if decide (sc=0)=true then [100] else []:=by
  by_cases h0:sc=0<;>simp[h0]
 rw[hb] at hs ⊢
 have hA:=HX h (decide (sc=0)) (by simp) (by rw[hs];simp) hr
 rw[hA]
 obtain⟨c,r',hc,hne⟩:=ov h (decide (sc=0))
 refine⟨?_,rfl,bO (vl hc hne)⟩
 rw[eF rfl (.inl rfl)]
 unfold d9
 rw[if_pos ⟨rfl,by by_cases h0:sc=0<;>simp[h0]⟩,cN]
theorem yb {s t:List UInt8}{f d:Nat}(h:Lib.validD t=true):bc s (f+1) d (.mk 4 0 0 t [] []) (aH t):=by
 intro i r hs hr
 rw[HW hs h]
 refine⟨?_,rfl,eT ⟨by simp,by simp⟩⟩
 rw[eF rfl (.inr (.inl rfl))]
 unfold d9
 rw[if_neg (by simp),if_neg (by simp),if_pos rfl,cN]
theorem ye {s t:List UInt8}{f d:Nat}:bc s (f+1) d (.mk 5 0 0 t [] []) (ja t):=by
 intro i r hs hr
 rw[JL hs]
 refine⟨?_,rfl,eT ⟨by simp,by simp⟩⟩
 rw[eF rfl (.inr (.inr (.inl rfl)))]
 unfold d9
 rw[if_neg (by simp),if_neg (by simp),if_neg (by simp),if_pos rfl,cN]
theorem gG {s w t:List UInt8}{f d:Nat}{k n:Int}{ps:List UInt8→Int×Int}{c:UInt8}{w':List UInt8}(hw:w=c::w')(hc:cD c=true)(ha:w.all iF=true)(hv:Lib.validD t=true)(hp:ps t=(n,0))
  (hn:∀ (R:Rd) (t:Tk),R.e=0→isT R [40]=false→t.text=w→fJ (bz srt f (d+1)) R t d=(.mk k (cC R ps).1 0 [] [] [],(cC R ps).2)) :
  bc s (f+1) d (.mk k n 0 [] [] []) (w++[32]++aH t):=by
 intro i r hs hr
 have hs1:s.drop i=w++(32::(aH t++r)):=by rw[hs];simp
 have hA:=wI hs1 hw hc (go hw ha (by simp)) ha rfl
 have hd1:=bg hs1
 obtain⟨hb1,hd2⟩:=bE hd1
 have hA2:A s (i+w.length)=A s (i+w.length+1):=wJ hb1 (by decide)
 have hA3:=HW (i:=i+w.length+1) hd2 hv
 have hne:w≠[91]∧w≠[123]∧w≠[93]:=by
  rw[hw]
  refine⟨fun q=>?_,fun q=>?_,fun q=>?_⟩ <;>
  ·have:=(List.cons.inj q).1
   subst this
   exact absurd hc (by decide)
 rw[hA]
 refine⟨?_,rfl,bO hne.2.2⟩
 rw[eF rfl (.inr (.inr (.inr (.inl rfl))))]
 unfold d9
 rw[if_neg (fun q=>absurd q.1 (by simp)),if_neg (by simp),if_neg (by simp),if_neg (by simp),if_neg hne.1,if_neg hne.2.1,cN,hA2,hA3]
 rw[hn _ _ rfl (eT ⟨by simp,by simp⟩) rfl]
 have hm:cC ⟨s,i+w.length+1+(aH t).length,{ kind:=3,pos:=i+w.length+1,text:=aH t,bytes:=t },0,0⟩ ps=(n,A s (i+w.length+1+(aH t).length)):=by
  unfold cC
  rw[AZ rfl rfl]
  simp only
  rw[cN]
  have he:(A s (i+w.length+1+(aH t).length)).e=0:=(BQ (bg hd2) hr).1
  rw[if_pos he,hp]
  simp only
  rw[if_pos trivial]
 rw[hm]
 simp only
 rw[show i+w.length+1+(aH t).length=i+(w++[32]++aH t).length by simp;omega]
end Go.Proofs.YtamoeblcphjbaaaGreatDoor
