/- A part of the proof for LiteralAgainCardSaid. -/
import Derived.Test.YtamoeblcphjbaaaGreatDoorAgLE5
import Derived.Test.YtamoeblcphjbaaaGreatDoorAgLE1
import Derived.Test.YtamoeblcphjbaaaGreatDoorAgLQ6
import Derived.Test.YtamoeblcphjbaaaGreatDoorAgL10
set_option maxRecDepth 100000
set_option linter.unusedVariables false
set_option linter.unusedSimpArgs false
namespace Go.Proofs.YtamoeblcphjbaaaGreatDoor
open Go Go.Ab Go.RowKit
theorem tp:∀ (a b:List UInt8),Op.bytesLess a b=decide (Lib.compareBytes a b<0)
 | [],[]=>rfl
 | _::_,[]=>rfl
 | [],_::_=>rfl
 | a::x,b::y=>by
   rw[Op.bytesLess,tp x y]
   simp only[Lib.compareBytes]
   by_cases h1:a<b
   ·simp[h1]
   ·by_cases h2:b<a
    ·have h3:¬ a=b:=by rintro rfl;exact h1 h2
     simp[h1,h2,h3]
    ·have h3:a=b:=UInt8.le_antisymm (UInt8.not_lt.1 h2) (UInt8.not_lt.1 h1)
     subst h3
     simp[h1]
theorem NB {a b:List UInt8}(h1:¬ Lib.compareBytes a b<0)(h2:a≠b):Lib.compareBytes b a<0:=by
 have key:∀ a b:List UInt8,¬ Lib.compareBytes a b<0→a≠b→Lib.compareBytes b a<0:=by
  intro a
  induction a with
  | nil=>
    intro b h1 h2
    cases b with
    | nil=>exact absurd rfl h2
    | cons y q=>simp[Lib.compareBytes] at h1
  | cons x p ih=>
    intro b h1 h2
    cases b with
    | nil=>simp[Lib.compareBytes]
    | cons y q=>
      simp only[Lib.compareBytes] at h1 ⊢
      by_cases c1:x<y
      ·rw[if_pos c1] at h1;exact absurd (by decide) h1
      ·by_cases c2:y<x
       ·rw[if_pos c2];decide
       ·have h3:x=y:=UInt8.le_antisymm (UInt8.not_lt.1 c2) (UInt8.not_lt.1 c1)
        subst h3
        rw[if_neg c1,if_neg c1] at h1 ⊢
        exact ih q h1 (fun e=>h2 (by rw[e]))
 exact key a b h1 h2
def Hw:Option (List UInt8)→List (List UInt8)→Prop
 | _,[]=>True
 | p,s::r=>bA s=true∧(∀ q,p=some q→Lib.compareBytes q s<0)∧Hw (some s) r
theorem Hu:∀ (L:List (List UInt8)) (p:Option (List UInt8)),dJ p L=0→Hw p L
 | [],p,_=>trivial
 | s::r,p,h=>by
   rw[dJ] at h
   by_cases h1:bA s=false
   ·rw[if_pos h1] at h;omega
   rw[if_neg h1] at h
   by_cases h2:p=some s
   ·rw[if_pos h2] at h;omega
   rw[if_neg h2] at h
   by_cases h3:(p.any fun q=>dz s q)=true
   ·rw[if_pos h3] at h;omega
   rw[if_neg h3] at h
   refine⟨by simpa using h1,fun q hq=>?_,Hu r _ h⟩
   subst hq
   have h4:Op.bytesLess s q=false:=by simpa[dz] using h3
   rw[tp] at h4
   exact NB (of_decide_eq_false h4) (fun e=>h2 (by rw[e]))
theorem Hv:∀ (L:List (List UInt8)) (p:Option (List UInt8)) (q:List UInt8),Hw p L→p=some q→∀ s∈L,Lib.compareBytes q s<0
 | [],_,_,_,_,s,hs=>by cases hs
 | a::r,p,q,h,hp,s,hs=>by
   obtain⟨h1,h2,h3⟩:=h
   rcases List.mem_cons.1 hs with rfl | hs
   ·exact h2 q hp
   ·exact jM _ _ _ (h2 q hp) (Hv r _ a h3 rfl s hs)
theorem Cn:∀ (L:List (List UInt8)) (p:Option (List UInt8)),Hw p L→L.Pairwise fun a b=>Lib.compareBytes a b<0
 | [],_,_=>.nil
 | a::r,p,h=>List.pairwise_cons.2 ⟨fun s hs=>Hv r _ a h.2.2 rfl s hs,Cn r _ h.2.2⟩
theorem LY {l:List Fld}(h:Hw none (l.map Fld.name)):srt l=l:=by
 have hp:=Cn _ _ h
 have hp2:l.Pairwise fun a b=>Lib.compareBytes a.name b.name<0:=by
  rw[List.pairwise_map] at hp;exact hp
 have hs:(srt l).Pairwise fun a b=>¬ Lib.compareBytes b.name a.name<0:=by
  rw[List.pairwise_iff_getElem]
  intro i j hi hj hij
  exact uQ l i j _ _ hij (List.getElem?_eq_getElem hi) (List.getElem?_eq_getElem hj)
 refine List.Perm.eq_of_pairwise (le:=fun a b=>¬ Lib.compareBytes b.name a.name<0) ?_ hs (hp2.imp fun {a b} hab hba=>?_) (jx l)
 ·intro a b ha hb h1 h2
  have hb':=hb
  have ha':=(jx l).mem_iff.1 ha
  obtain⟨i,hi,rfl⟩:=List.getElem_of_mem ha'
  obtain⟨j,hj,rfl⟩:=List.getElem_of_mem hb'
  have hpw:=List.pairwise_iff_getElem.1 hp2
  rcases Nat.lt_trichotomy i j with h | h | h
  ·exact absurd (hpw i j hi hj h) h2
  ·subst h;rfl
  ·exact absurd (hpw j i hj hi h) h1
 ·have:=jM _ _ _ hab hba
  rw[nx] at this
  exact absurd this (by decide)
theorem gR {R:Rd}{t:List UInt8}(h:R.now.kind≠5∧R.now.kind≠1):isT R t=false:=by
 unfold isT
 rw[decide_eq_false h.1,decide_eq_false h.2];simp
theorem cP {R:Rd}{t:List UInt8}(h:R.now.text≠t):isT R t=false:=by
 unfold isT
 rw[decide_eq_false h];simp
theorem AO {R:Rd}{t:List UInt8}(h0:R.e=0)(hk:R.now.kind=5)(ht:R.now.text=t):isT R t=true:=by
 unfold isT
 rw[decide_eq_true h0,decide_eq_true hk,decide_eq_true ht];rfl
theorem HG {s r:List UInt8}{j:Nat}(h:s.drop j=r)(hr:mI r):(A s j).e=0∧isT (A s j) [40]=false:=by
 cases r with
 | nil=>
   rw[O4 (List.drop_eq_nil_iff.1 h)]
   exact⟨rfl,gR ⟨by simp,by simp⟩⟩
 | cons c r'=>
   have hc:=hr c rfl
   have hs:CP c=true:=by rcases hc with rfl | rfl | rfl | rfl<;>rfl
   rw[wY h hs]
   refine⟨rfl,cP ?_⟩
   simp only
   rcases hc with rfl | rfl | rfl | rfl<;>decide
def bC (s:List UInt8)(f d:Nat)(v:Val)(X:List UInt8):Prop:=
 ∀ i r,s.drop i=X++r→mI r→aI srt f d (A s i)=(v,A s (i+X.length))∧(A s i).e=0∧isT (A s i) [93]=false
theorem kB {w:List UInt8}(h:bA w=true):∃ c r,w=c::r∧aO c=true∧w.all cQ=true:=by
 unfold bA at h
 simp only[Bool.and_eq_true,decide_eq_true_eq] at h
 obtain⟨h1,h2,h3,h4⟩:=h
 cases w with
 | nil=>simp at h1
 | cons c r=>
   have k1:∀ c:UInt8,w8 c=true→aO c=true:=eT (by decide +kernel)
   have k2:∀ c:UInt8,okC c=true→cQ c=true:=eT (by decide +kernel)
   refine⟨c,r,rfl,k1 c h3,?_⟩
   rw[List.all_eq_true] at h4 ⊢
   exact fun x hx=>k2 x (h4 x hx)
theorem jP {w:List UInt8}{c:UInt8}{w' r:List UInt8}(hw:w=c::w')(ha:w.all cQ=true)(hr:r.head?≠some 34):¬ (c.toNat=120∧(w'++r).head? = some 34):=by
 rintro⟨_,h⟩
 cases w' with
 | nil=>exact hr h
 | cons b q=>
   rw[hw] at ha
   simp only[List.all_cons,Bool.and_eq_true] at ha
   have:b=34:=Option.some.inj h
   subst this
   exact absurd ha.2.1 (by decide)
theorem H1 {r:List UInt8}(h:mI r):r.head?≠some 34:=by
 intro q
 have:=h 34 q
 revert this;decide
theorem yb {r:List UInt8}(h:mI r):(r.head?.any cQ)=false:=yc h (by decide)
theorem eo {s:List UInt8}{n:Nat}{w:Tk}:bm ⟨s,n,w,0,0⟩=A s n:=QJ rfl rfl
theorem oo {s:List UInt8}{f d:Nat}{v:Val}{w:List UInt8}{c:UInt8}{w':List UInt8}(hw:w=c::w')(hc:aO c=true)(ha:w.all cQ=true)
  (hv:∀ (R:Rd) (t:Tk),R.e=0→isT R [40]=false→t.text=w→bJ (aI srt f (d+1)) R t d=(v,R)):bC s (f+1) d v w:=by
 intro i r h hr
 have hA:=CN h hw hc (jP hw ha (H1 hr)) ha (yb hr)
 have hst:=HG (bK h) hr
 have hne:w≠[91]∧w≠[123]∧w≠[93]:=by
  rw[hw]
  refine⟨fun q=>?_,fun q=>?_,fun q=>?_⟩ <;>
  ·have:=(List.cons.inj q).1
   subst this
   exact absurd hc (by decide)
 rw[hA]
 refine⟨?_,rfl,cP hne.2.2⟩
 rw[cj rfl (.inr (.inr (.inr (.inl rfl))))]
 unfold bj
 rw[if_neg (fun q=>absurd q.1 (by simp)),if_neg (by simp),if_neg (by simp),if_neg (by simp),if_neg hne.1,if_neg hne.2.1,eo]
 exact hv _ _ hst.1 hst.2 rfl
theorem yR {s:List UInt8}{f d:Nat}:bC s (f+1) d (.mk 1 1 0 [] [] []) [116,114,117,101]:=
 oo rfl (by decide) (by decide) fun R t h0 hi ht=>by rw[kA h0 hi,if_pos ht]
theorem uX {s:List UInt8}{f d:Nat}:bC s (f+1) d (.mk 1 0 0 [] [] []) [102,97,108,115,101]:=
 oo rfl (by decide) (by decide) fun R t h0 hi ht=>by rw[kA h0 hi,if_neg (by rw[ht];decide),if_pos ht]
theorem ta {n:Int}{sc:Nat}(h:IsN n sc)(b:Bool):∃ c r,c8 n sc++(if b=true then [100] else [])=c::r∧c≠93:=by
 obtain⟨sg,N,F,e,hsg,⟨c0,N',hN,hc0⟩,_⟩:=pD h
 rw[e,hN]
 rcases hsg with rfl | rfl
 ·refine⟨c0,_,rfl,?_⟩
  rintro rfl
  exact absurd hc0 (by decide)
 ·exact⟨45,_,rfl,by decide⟩
theorem A3 {X:List UInt8}{c d:UInt8}{r:List UInt8}(h:X=c::r)(hc:c≠d):X≠[d]:=by
 rw[h];intro q;exact hc (List.cons.inj q).1
theorem Eb {s:List UInt8}{f d:Nat}{n:Int}(h:IsN n 0):bC s (f+1) d (.mk 2 n 0 [] [] []) (cS n):=by
 intro i r hs hr
 rw[Fw h] at hs ⊢
 have hA:=O3 h false (by simp) (by simpa using hs) hr
 simp only[Bool.false_eq_true,if_false,List.append_nil,Bool.false_or] at hA
 rw[hA]
 obtain⟨c,r',hc,hne⟩:=ta h false
 simp only[Bool.false_eq_true,if_false,List.append_nil] at hc
 refine⟨?_,rfl,cP (A3 hc hne)⟩
 rw[cj rfl (.inl rfl)]
 unfold bj
 rw[if_neg (by simp),if_pos rfl,eo]
theorem Ed {s:List UInt8}{f d:Nat}{n:Int}{sc:Nat}(h:IsN n sc):bC s (f+1) d (.mk 3 n sc [] [] []) (c8 n sc++(if sc=0 then [100] else [])):=by
 intro i r hs hr
 have hb:(if sc=0 then ([100]:List UInt8) else [])=if decide (sc=0)=true then [100] else []:=by
  by_cases h0:sc=0<;>simp[h0]
 rw[hb] at hs ⊢
 have hA:=O3 h (decide (sc=0)) (by simp) (by rw[hs];simp) hr
 rw[hA]
 obtain⟨c,r',hc,hne⟩:=ta h (decide (sc=0))
 refine⟨?_,rfl,cP (A3 hc hne)⟩
 rw[cj rfl (.inl rfl)]
 unfold bj
 rw[if_pos ⟨rfl,by by_cases h0:sc=0<;>simp[h0]⟩,eo]
theorem D9 {s t:List UInt8}{f d:Nat}(h:Lib.validD t=true):bC s (f+1) d (.mk 4 0 0 t [] []) (aL t):=by
 intro i r hs hr
 rw[O0 hs h]
 refine⟨?_,rfl,gR ⟨by simp,by simp⟩⟩
 rw[cj rfl (.inr (.inl rfl))]
 unfold bj
 rw[if_neg (by simp),if_neg (by simp),if_pos rfl,eo]
theorem Ec {s t:List UInt8}{f d:Nat}:bC s (f+1) d (.mk 5 0 0 t [] []) (lC t):=by
 intro i r hs hr
 rw[Ro hs]
 refine⟨?_,rfl,gR ⟨by simp,by simp⟩⟩
 rw[cj rfl (.inr (.inr (.inl rfl)))]
 unfold bj
 rw[if_neg (by simp),if_neg (by simp),if_neg (by simp),if_pos rfl,eo]
theorem kf {s w t:List UInt8}{f d:Nat}{k n:Int}{ps:List UInt8→Int×Int}{c:UInt8}{w':List UInt8}(hw:w=c::w')(hc:aO c=true)(ha:w.all cQ=true)(hv:Lib.validD t=true)(hp:ps t=(n,0))
  (hn:∀ (R:Rd) (t:Tk),R.e=0→isT R [40]=false→t.text=w→bJ (aI srt f (d+1)) R t d=(.mk k (ba R ps).1 0 [] [] [],(ba R ps).2)) :
  bC s (f+1) d (.mk k n 0 [] [] []) (w++[32]++aL t):=by
 intro i r hs hr
 have hs1:s.drop i=w++(32::(aL t++r)):=by rw[hs];simp
 have hA:=CN hs1 hw hc (jP hw ha (by simp)) ha rfl
 have hd1:=bK hs1
 obtain⟨hb1,hd2⟩:=cy hd1
 have hA2:A s (i+w.length)=A s (i+w.length+1):=CO hb1 (by decide)
 have hA3:=O0 (i:=i+w.length+1) hd2 hv
 have hne:w≠[91]∧w≠[123]∧w≠[93]:=by
  rw[hw]
  refine⟨fun q=>?_,fun q=>?_,fun q=>?_⟩ <;>
  ·have:=(List.cons.inj q).1
   subst this
   exact absurd hc (by decide)
 rw[hA]
 refine⟨?_,rfl,cP hne.2.2⟩
 rw[cj rfl (.inr (.inr (.inr (.inl rfl))))]
 unfold bj
 rw[if_neg (fun q=>absurd q.1 (by simp)),if_neg (by simp),if_neg (by simp),if_neg (by simp),if_neg hne.1,if_neg hne.2.1,eo,hA2,hA3]
 rw[hn _ _ rfl (gR ⟨by simp,by simp⟩) rfl]
 have hm:ba ⟨s,i+w.length+1+(aL t).length,{ kind:=3,pos:=i+w.length+1,text:=aL t,bytes:=t },0,0⟩ ps=(n,A s (i+w.length+1+(aL t).length)):=by
  unfold ba
  rw[iY rfl rfl]
  simp only
  rw[eo]
  have he:(A s (i+w.length+1+(aL t).length)).e=0:=(HG (bK hd2) hr).1
  rw[if_pos he,hp]
  simp only
  rw[if_pos trivial]
 rw[hm]
 simp only
 rw[show i+w.length+1+(aL t).length=i+(w++[32]++aL t).length by simp;omega]
end Go.Proofs.YtamoeblcphjbaaaGreatDoor
