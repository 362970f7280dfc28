/- A part of the proof for LiteralDiffersCardSaid. -/
import Derived.Lib.ValidLaws
import Derived.Test.YtamoeblcphjbaaaGreatDoorDiLE7
import Derived.Test.YtamoeblcphjbaaaGreatDoorDiLC18
import Derived.Test.YtamoeblcphjbaaaGreatDoorDiL15
import Derived.Test.YtamoeblcphjbaaaGreatDoorDiLSr2
set_option maxRecDepth 100000
set_option linter.unusedVariables false
set_option linter.unusedSimpArgs false
namespace Go.Proofs.YtamoeblcphjbaaaGreatDoor
open Go Go.Ab Go.RowKit
theorem dC {α:Type}(g:α→List UInt8)(x:α):∀ L:List α,aE [44,32] ((x::L).map g)=g x++L.flatMap fun y=>[44,32]++g y
 | []=>by simp[aE]
 | y::L=>by
   have ih:=dC g y L
   rw[List.map_cons,List.map_cons,aE,List.flatMap_cons,← List.map_cons,ih]
   simp
theorem fZ {r:List UInt8}{c:UInt8}{α:Type}(g:α→List UInt8)(L:List α)(hc:c=93∨c=125):jA ((L.flatMap fun y=>[44,32]++g y)++c::r):=by
 intro b hb
 cases L with
 | nil=>
   simp only[List.flatMap_nil,List.nil_append,List.head?_cons,Option.some.injEq] at hb
   subst hb
   rcases hc with h | h
   ·exact .inr (.inl h)
   ·exact .inr (.inr (.inl h))
 | cons x L=>
   simp only[List.flatMap_cons,List.cons_append,List.head?_cons,Option.some.injEq] at hb
   exact .inl hb.symm
theorem bL {s r:List UInt8}{j:Nat}{c:UInt8}(h:s.drop j=c::r)(hc:EL c=true):ba (A s j) [c]=A s (j+1)∧(A s j).e=0∧∀ t,t≠[c]→isT (A s j) t=false:=by
 rw[rD h hc]
 have hi:isT ⟨s,j+1,{ kind:=5,pos:=j,text:=[c] },0,0⟩ [c]=true:=u9 rfl rfl rfl
 refine⟨?_,rfl,fun t ht=>bO (fun q=>ht q.symm)⟩
 unfold ba
 rw[if_pos rfl,if_pos hi,cN]
theorem lG {s r:List UInt8}{j:Nat}{c:UInt8}(h:s.drop j=c::r)(hc:EL c=true):isT (A s j) [c]=true:=by
 rw[rD h hc];exact u9 rfl rfl rfl
theorem jB {s r:List UInt8}{j:Nat}{c:UInt8}(h:s.drop j=c::32::r):A s (j+1)=A s (j+2)∧s.drop (j+2)=r:=by
 obtain⟨_,h1⟩:=bE h
 obtain⟨h2,h3⟩:=bE h1
 exact⟨wJ h2 (by decide),h3⟩
theorem lB {s:List UInt8}{f d:Nat}{g:Val→List UInt8}:∀ (L acc:List Val) (j k:Nat) (r:List UInt8),(∀ x∈L,bc s f d x (g x))→L.length<k →
  s.drop j=(L.flatMap fun x=>[44,32]++g x)++93::r→g7 (bz srt f d) k false acc (A s j)=(acc++L,A s (j+(L.flatMap fun x=>[44,32]++g x).length))
 | [],acc,j,k,r,_,_,h=>by
   have hi:=lG (c:=93) h (by decide)
   rw[oC (fun q=>by rw[hi] at q;cases q.2)]
   simp
 | x::L,acc,j,k,r,hr,hk,h=>by
   obtain⟨k,rfl⟩:∃ m,k=m+1:=⟨k - 1,by omega⟩
   have h':s.drop j=44::32::(g x++((L.flatMap fun x=>[44,32]++g x)++93::r)):=by rw[h];simp
   obtain⟨e1,e2,e3⟩:=bL (c:=44) h' (by decide)
   obtain⟨e4,e5⟩:=jB h'
   obtain⟨v1,v2,v3⟩:=hr x (by simp) (j+2) _ e5 (fZ g L (.inl rfl))
   rw[oD ⟨e2,e3 _ (by decide)⟩,if_neg (by decide),e1,e4,v1]
   simp only
   rw[lB L (acc++[x]) (j+2+(g x).length) k r (fun y hy=>hr y (List.mem_cons_of_mem _ hy)) (by simp only[List.length_cons] at hk;omega) (bg e5)]
   rw[List.append_assoc,List.singleton_append,List.flatMap_cons,List.length_append,List.length_append]
   simp only[List.length_cons,List.length_nil]
   rw[show j+2+(g x).length+(L.flatMap fun x=>[44,32]++g x).length=j+(0+1+1+(g x).length+(L.flatMap fun x=>[44,32]++g x).length) by omega]
theorem oT {α:Type}(g:α→List UInt8)(L:List α):2*L.length≤(L.flatMap fun x=>[44,32]++g x).length:=by
 induction L with
 | nil=>simp
 | cons x L ih=>rw[List.flatMap_cons,List.length_append,List.length_append,List.length_cons];simp only[List.length_cons,List.length_nil];omega
theorem tp {s:List UInt8}{f d:Nat}{g:Val→List UInt8}{l:List Val}(hl:∀ x∈l,bc s f (d+1) x (g x)):bc s (f+1) d (.mk 8 0 0 [] l []) ([91]++aE [44,32] (l.map g)++[93]):=by
 intro i r hs hr
 have h0:s.drop i=91::(aE [44,32] (l.map g)++93::r):=by rw[hs];simp
 have hA:=rD h0 (by decide)
 obtain⟨_,h1⟩:=bE h0
 rw[hA]
 refine⟨?_,rfl,bO (by simp)⟩
 rw[eF rfl (.inr (.inr (.inr (.inr (.inl rfl)))))]
 unfold d9
 rw[if_neg (by simp),if_neg (by simp),if_neg (by simp),if_neg (by simp),if_pos rfl,cN]
 have key:g7 (bz srt f (d+1)) (s.length+2) true [] (A s (i+1))=(l,A s (i+1+(aE [44,32] (l.map g)).length)):=by
  cases l with
  | nil=>
    have hi:=lG (c:=93) h1 (by decide)
    rw[oC (fun q=>by rw[hi] at q;cases q.2)]
    simp[aE]
  | cons x L=>
    rw[dC,List.append_assoc] at h1
    obtain⟨v1,v2,v3⟩:=hl x (by simp) (i+1) _ h1 (fZ g L (.inl rfl))
    have hlen:L.length<s.length+1:=by
     have q:=congrArg List.length h1
     have q2:=oT g L
     rw[List.length_drop,List.length_append,List.length_append] at q
     omega
    rw[oD ⟨v2,v3⟩,if_pos rfl,v1]
    simp only
    rw[lB L ([]++[x]) _ (s.length+1) r (fun y hy=>hl y (List.mem_cons_of_mem _ hy)) hlen (bg h1),dC,List.length_append]
    simp only[List.nil_append,List.singleton_append]
    rw[Nat.add_assoc (i+1)]
 simp only
 rw[key]
 simp only
 have h2:=bg h1
 rw[(bL (c:=93) h2 (by decide)).1]
 rw[show i+1+(aE [44,32] (l.map g)).length+1=i+([91]++aE [44,32] (l.map g)++[93]).length by simp;omega]
theorem mW {s w r:List UInt8}{i:Nat}{c:UInt8}(h:s.drop i=w++c::r)(hw:bj w=true)(hc:c=58∨c=40):A s i=⟨s,i+w.length,{ kind:=1,pos:=i,text:=w },0,0⟩:=by
 obtain⟨b,w',e,hb,ha⟩:=gV hw
 refine wI h e hb (go e ha ?_) ha ?_
 ·rcases hc with rfl | rfl<;>simp
 ·rcases hc with rfl | rfl<;>rfl
theorem kK {s:List UInt8}{f d:Nat}{b:Bool}{R:Rd}{w X r:List UInt8}{v:Val}{j:Nat}{seen:List (List UInt8)}(hR:(if b=true then R else ba R [44])=A s j)(h:s.drop j=w++[58,32]++X++r)(hw:bj w=true)(hX:bc s f d v X)(hr:jA r)(hse:w∉seen) :
  (x9 b R).1=w∧bz srt f d (ba (FG seen b R) [58])=(v,A s (j+(w++[58,32]++X).length)):=by
 have h1:s.drop j=w++58::(32::(X++r)):=by rw[h];simp
 have hA:=mW h1 hw (.inl rfl)
 have h2:=bg h1
 obtain⟨e1,e2,e3⟩:=bL (c:=58) h2 (by decide)
 obtain⟨e4,e5⟩:=jB h2
 have hn:x9 b R=(w,A s (j+w.length)):=by
  unfold x9 Dr
  rw[hR,hA,AZ rfl rfl]
  simp only
  rw[cN,if_neg (by rw[hw];simp)]
 have hD:FG seen b R=A s (j+w.length):=by
  unfold FG
  rw[hn]
  exact if_neg (fun q=>hse q.2)
 refine⟨by rw[hn],?_⟩
 rw[hD,e1,e4,(hX _ _ e5 hr).1]
 rw[show j+w.length+2+X.length=j+(w++[58,32]++X).length by simp;omega]
def je (g:Val→List UInt8)(x:Fld):List UInt8:=x.name++[58,32]++g x.value
theorem n8 {s:List UInt8}{f d:Nat}{g:Val→List UInt8}:∀ (L acc:List Fld) (seen:List (List UInt8)) (j k:Nat) (r:List UInt8),(∀ x∈L,bc s f d x.value (g x.value)∧bj x.name=true∧x.name∉seen)→(L.map Fld.name).Nodup→L.length<k →
  s.drop j=(L.flatMap fun x=>[44,32]++je g x)++125::r→tl (bz srt f d) k false seen acc (A s j)=(acc++L,A s (j+(L.flatMap fun x=>[44,32]++je g x).length))
 | [],acc,seen,j,k,r,_,_,_,h=>by
   have hi:=lG (c:=125) h (by decide)
   rw[tj (fun q=>by rw[hi] at q;cases q.2)]
   simp
 | x::L,acc,seen,j,k,r,hr,hnd,hk,h=>by
   obtain⟨k,rfl⟩:∃ m,k=m+1:=⟨k - 1,by omega⟩
   have h':s.drop j=44::32::(je g x++((L.flatMap fun x=>[44,32]++je g x)++125::r)):=by rw[h];simp
   obtain⟨e1,e2,e3⟩:=bL (c:=44) h' (by decide)
   obtain⟨e4,e5⟩:=jB h'
   obtain⟨x1,x2,x3⟩:=hr x (by simp)
   obtain⟨v1,v2⟩:=kK (R:=A s j) (b:=false) (j:=j+2) (w:=x.name) (X:=g x.value) (by rw[if_neg (by decide),e1,e4]) (by rw[e5];rfl) x2 x1 (fZ (je g) L (.inr rfl)) x3
   rw[List.map_cons,List.nodup_cons] at hnd
   rw[tk ⟨e2,e3 _ (by decide)⟩,v2,v1]
   simp only
   have hx:Fld.mk x.name x.value=x:=by cases x;rfl
   have hse:∀ y∈L,y.name∉G6 seen x.name:=by
    intro y hy hm
    have hy3:=(hr y (List.mem_cons_of_mem _ hy)).2.2
    unfold G6 at hm
    rw[if_neg x3] at hm
    rcases List.mem_append.1 hm with hm | hm
    ·exact hy3 hm
    ·exact hnd.1 (List.mem_map.2 ⟨y,hy,List.mem_singleton.1 hm⟩)
   have hfx:x.name++[58,32]++g x.value=je g x:=rfl
   rw[hx,hfx,n8 L (acc++[x]) _ _ k r (fun y hy=>⟨(hr y (List.mem_cons_of_mem _ hy)).1,(hr y (List.mem_cons_of_mem _ hy)).2.1,hse y hy⟩) hnd.2 (by simp only[List.length_cons] at hk;omega) (bg e5)]
   rw[List.append_assoc,List.singleton_append,List.flatMap_cons,List.length_append,List.length_append]
   simp only[List.length_cons,List.length_nil]
   rw[show j+2+(je g x).length+(L.flatMap fun x=>[44,32]++je g x).length=j+(0+1+1+(je g x).length+(L.flatMap fun x=>[44,32]++je g x).length) by omega]
theorem l8:∀ (L:List (List UInt8)) (p:Option (List UInt8)),BI p L→∀ s∈L,bj s=true
 | [],_,_,s,hs=>by cases hs
 | a::r,p,h,s,hs=>by
   rcases List.mem_cons.1 hs with rfl | hs
   ·exact h.1
   ·exact l8 r _ h.2.2 s hs
theorem wq {L:List (List UInt8)}{p:Option (List UInt8)}(h:BI p L):L.Nodup:=by
 refine (wp L p h).imp fun {a b} hab e=>?_
 subst e
 rw[j4] at hab
 exact absurd hab (by decide)
theorem yc {s:List UInt8}{f d:Nat}{g:Val→List UInt8}{l:List Fld}(hl:∀ x∈l,bc s f (d+1) x.value (g x.value))(hn:BI none (l.map Fld.name)) :
  bc s (f+1) d (.mk 9 0 0 [] [] l) ([123]++aE [44,32] (l.map (je g))++[125]):=by
 intro i r hs hr
 have h0:s.drop i=123::(aE [44,32] (l.map (je g))++125::r):=by rw[hs];simp
 have hA:=rD h0 (by decide)
 obtain⟨_,h1⟩:=bE h0
 have hnm:=l8 _ _ hn
 have hnd:=wq hn
 rw[hA]
 refine⟨?_,rfl,bO (by simp)⟩
 rw[eF rfl (.inr (.inr (.inr (.inr (.inr rfl)))))]
 unfold d9
 rw[if_neg (by simp),if_neg (by simp),if_neg (by simp),if_neg (by simp),if_neg (by simp),if_pos rfl,cN]
 have key:tl (bz srt f (d+1)) (s.length+2) true [] [] (A s (i+1))=(l,A s (i+1+(aE [44,32] (l.map (je g))).length)):=by
  cases l with
  | nil=>
    have hi:=lG (c:=125) h1 (by decide)
    rw[tj (fun q=>by rw[hi] at q;cases q.2)]
    simp[aE]
  | cons x L=>
    rw[dC,List.append_assoc] at h1
    have x2:bj x.name=true:=hnm _ (by simp)
    have h1':s.drop (i+1)=x.name++58::(32::(g x.value++((L.flatMap fun y=>[44,32]++je g y)++125::r))):=by rw[h1];simp[je]
    have hAn:=mW h1' x2 (.inl rfl)
    obtain⟨v1,v2⟩:=kK (R:=A s (i+1)) (b:=true) (j:=i+1) (w:=x.name) (X:=g x.value) (seen:=[]) (if_pos rfl) (by rw[h1];rfl) x2 (hl x (by simp)) (fZ (je g) L (.inr rfl)) (by simp)
    have hlen:L.length<s.length+1:=by
     have q:=congrArg List.length h1
     have q2:=oT (je g) L
     rw[List.length_drop,List.length_append,List.length_append] at q
     omega
    have he:(A s (i+1)).e=0∧isT (A s (i+1)) [125]=false:=by
     rw[hAn]
     obtain⟨b,w',e,hb,_⟩:=gV x2
     refine⟨rfl,bO ?_⟩
     simp only
     rw[e]
     intro q
     have:=(List.cons.inj q).1
     subst this
     exact absurd hb (by decide)
    rw[List.map_cons,List.nodup_cons] at hnd
    have hx:Fld.mk x.name x.value=x:=by cases x;rfl
    rw[tk he,v2,v1]
    simp only
    have hfx:x.name++[58,32]++g x.value=je g x:=rfl
    rw[hx,hfx,n8 L ([]++[x]) _ _ (s.length+1) r (fun y hy=>⟨hl y (List.mem_cons_of_mem _ hy),hnm _ (List.mem_map.2 ⟨y,List.mem_cons_of_mem _ hy,rfl⟩),fun hm=>by
     simp only[G6,List.not_mem_nil,if_false,List.nil_append,List.mem_singleton] at hm
     exact hnd.1 (List.mem_map.2 ⟨y,hy,hm⟩)⟩) hnd.2 hlen (bg h1),dC,List.length_append]
    simp only[List.nil_append,List.singleton_append]
    rw[Nat.add_assoc (i+1)]
 simp only
 rw[key]
 simp only
 have h2:=bg h1
 rw[(bL (c:=125) h2 (by decide)).1,Fd hn]
 rw[show i+1+(aE [44,32] (l.map (je g))).length+1=i+([123]++aE [44,32] (l.map (je g))++[125]).length by simp;omega]
theorem ya {s t X:List UInt8}{f d:Nat}{x:Val}(ht:bj t=true)(hx:bc s f (d+1) x X):bc s (f+1) d (.mk 10 0 0 t [x] []) (t++[40]++X++[41]):=by
 intro i r hs hr
 have h0:s.drop i=t++40::(X++41::r):=by rw[hs];simp
 have hA:=mW h0 ht (.inr rfl)
 have h1:=bg h0
 obtain⟨e1,e2,e3⟩:=bL (c:=40) h1 (by decide)
 obtain⟨_,h2⟩:=bE h1
 have hst:jA (41::r):=fun c hc=>by
  have:c=41:=(Option.some.inj hc).symm
  exact .inr (.inr (.inr this))
 have hv:=(hx _ _ h2 hst).1
 have h3:=bg h2
 obtain⟨b,w',e,hb,ha⟩:=gV ht
 have hne:t≠[91]∧t≠[123]∧t≠[93]:=by
  rw[e]
  refine⟨fun q=>?_,fun q=>?_,fun q=>?_⟩ <;>
  ·have:=(List.cons.inj q).1
   subst this
   exact absurd hb (by decide)
 have hi:=lG (c:=40) h1 (by decide)
 have hadv:fE (A s (i+t.length))=A s (i+t.length+1):=by
  rw[rD h1 (by decide),cN]
 rw[hA]
 refine⟨?_,rfl,bO hne.2.2⟩
 rw[eF rfl (.inr (.inr (.inr (.inl rfl))))]
 unfold d9
 rw[if_neg (fun q=>absurd q.1 (by simp)),if_neg (by simp),if_neg (by simp),if_neg (by simp),if_neg hne.1,if_neg hne.2.1,cN,Dp e2 hi ht,hadv,hv]
 simp only
 rw[(bL (c:=41) h3 (by decide)).1]
 rw[show i+t.length+1+X.length+1=i+(t++[40]++X++[41]).length by simp;omega]
theorem eE:∀ l:List UInt8,(∀ b∈l,b.toNat<128)→Lib.validD l=true
 | [],_=>rfl
 | b::r,h=>by rw[Lib.validD_cons b r (h b (by simp))];exact eE r fun x hx=>h x (List.mem_cons_of_mem _ hx)
theorem bM (k a:Nat):∀ b∈aN k a,b.toNat<128:=fun b hb=>by
 have:=ve (List.all_eq_true.1 (dA k a) b hb)
 omega
theorem iB (y:Int)(m:Nat)(d:Int):∀ b∈bR y m d,b.toNat<128:=fun b hb=>by
 unfold bR at hb
 simp only[List.mem_append,List.mem_singleton] at hb
 rcases hb with (((h | h) | h) | h) | h
 ·exact bM _ _ b h
 ·subst h;decide
 ·exact bM _ _ b h
 ·subst h;decide
 ·exact bM _ _ b h
theorem nC {t:List UInt8}(ht:∀ b∈t,b.toNat<128)(h mi s ms:Nat):∀ b∈eH t h mi s ms,b.toNat<128:=fun b hb=>by
 unfold eH at hb
 simp only[List.mem_append,List.mem_singleton] at hb
 rcases hb with ((q | ((((q | q) | q) | q) | q) | q) | q) | q
 ·exact ht b q
 ·subst q;decide
 ·exact bM _ _ b q
 ·subst q;decide
 ·exact bM _ _ b q
 ·subst q;decide
 ·exact bM _ _ b q
 ·split at q
  ·cases q
  ·simp only[List.mem_append,List.mem_singleton] at q
   rcases q with q | q
   ·subst q;decide
   ·exact bM _ _ b q
 ·subst q;decide
theorem vP {n:Int}(h:-719162≤n∧n≤2932896):Lib.validD (mj n)=true∧gQ (mj n)=(n,0):=by
 obtain⟨y,m,d,h1,h2,h3⟩:=(j1 h.1 h.2).choose_spec.2
 rw[mj,dif_pos h,h3]
 exact⟨eE _ (iB _ _ _),by rw[mS h1,← h2]⟩
theorem pA {n:Int}(h:-62135596800000≤n∧n≤253402300799999):Lib.validD (dZ n)=true∧gP (dZ n)=(n,0):=by
 obtain⟨y,m,d,hh,mi,sc,ms,h1,h2,h3,h4,h5,h6,h7⟩:=(gv h.1 h.2).choose_spec.2
 rw[dZ,dif_pos h,h7]
 exact⟨eE _ (nC (iB _ _ _) _ _ _ _),by rw[mR h1 h2 h3 h4 h5,← h6]⟩
end Go.Proofs.YtamoeblcphjbaaaGreatDoor
-- many steps
namespace Go.Proofs.YtamoeblcphjbaaaGreatDoor
open Go Go.Ab
attribute [local irreducible] vc
noncomputable def o7 (v:Val):Int:=jm 0 (aV (fD v).choose 1 v)
theorem vY (v:Val)(hv:v.ok):aq Tryz.prog aC 15 [v.pv] (.int .i64 (o7 v)):=gj _ v (e7 _ v (fD v).choose_spec) hv
noncomputable def JV (v:Val)(R:Rd):Val×Int×Int:=
 if R.e=0 then (if bx v=true then (v,0,0) else if o7 v=0 then (v,0,0) else (du,(R.off:Int),o7 v)) else (du,(R.off:Int),R.e)
noncomputable def tW (s:List UInt8):Val×Int×Int:=JV (bz srt 8 0 (kz s)).1 (vv (bz srt 8 0 (kz s)).2)
section
variable {T:Nat}{p:PV}
end
end Go.Proofs.YtamoeblcphjbaaaGreatDoor
