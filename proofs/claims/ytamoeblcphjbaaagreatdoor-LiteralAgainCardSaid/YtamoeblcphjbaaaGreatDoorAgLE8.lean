/- A part of the proof for LiteralAgainCardSaid. -/
import Derived.Lib.ValidLaws
import Derived.Test.YtamoeblcphjbaaaGreatDoorAgLE7
import Derived.Test.YtamoeblcphjbaaaGreatDoorAgLC18
import Derived.Test.YtamoeblcphjbaaaGreatDoorAgL15
import Derived.Test.YtamoeblcphjbaaaGreatDoorAgLQ6
set_option maxRecDepth 100000
set_option linter.unusedVariables false
set_option linter.unusedSimpArgs false
namespace Go.Proofs.YtamoeblcphjbaaaGreatDoor
open Go Go.Ab Go.RowKit
theorem fl {α:Type}(g:α→List UInt8)(x:α):∀ L:List α,aJ [44,32] ((x::L).map g)=g x++L.flatMap fun y=>[44,32]++g y
 | []=>by simp[aJ]
 | y::L=>by
   have ih:=fl g y L
   rw[List.map_cons,List.map_cons,aJ,List.flatMap_cons,← List.map_cons,ih]
   simp
theorem jw {r:List UInt8}{c:UInt8}{α:Type}(g:α→List UInt8)(L:List α)(hc:c=93∨c=125):mI ((L.flatMap fun y=>[44,32]++g y)++c::r):=by
 intro b hb
 cases L with
 | nil=>
   simp only[List.flatMap_nil,List.nil_append,List.head?_cons,Option.some.injEq] at hb
   subst hb
   rcases hc with h | h
   ·exact .inr (.inl h)
   ·exact .inr (.inr (.inl h))
 | cons x L=>
   simp only[List.flatMap_cons,List.cons_append,List.head?_cons,Option.some.injEq] at hb
   exact .inl hb.symm
theorem cJ {s r:List UInt8}{j:Nat}{c:UInt8}(h:s.drop j=c::r)(hc:CP c=true):aD (A s j) [c]=A s (j+1)∧(A s j).e=0∧∀ t,t≠[c]→isT (A s j) t=false:=by
 rw[wY h hc]
 have hi:isT ⟨s,j+1,{ kind:=5,pos:=j,text:=[c] },0,0⟩ [c]=true:=AO rfl rfl rfl
 refine⟨?_,rfl,fun t ht=>cP (fun q=>ht q.symm)⟩
 unfold aD
 rw[if_pos rfl,if_pos hi,eo]
theorem pl {s r:List UInt8}{j:Nat}{c:UInt8}(h:s.drop j=c::r)(hc:CP c=true):isT (A s j) [c]=true:=by
 rw[wY h hc];exact AO rfl rfl rfl
theorem mJ {s r:List UInt8}{j:Nat}{c:UInt8}(h:s.drop j=c::32::r):A s (j+1)=A s (j+2)∧s.drop (j+2)=r:=by
 obtain⟨_,h1⟩:=cy h
 obtain⟨h2,h3⟩:=cy h1
 exact⟨CO h2 (by decide),h3⟩
theorem pf {s:List UInt8}{f d:Nat}{g:Val→List UInt8}:∀ (L acc:List Val) (j k:Nat) (r:List UInt8),(∀ x∈L,bC s f d x (g x))→L.length<k →
  s.drop j=(L.flatMap fun x=>[44,32]++g x)++93::r→cw (aI srt f d) k false acc (A s j)=(acc++L,A s (j+(L.flatMap fun x=>[44,32]++g x).length))
 | [],acc,j,k,r,_,_,h=>by
   have hi:=pl (c:=93) h (by decide)
   rw[gN (fun q=>by rw[hi] at q;cases q.2)]
   simp
 | x::L,acc,j,k,r,hr,hk,h=>by
   obtain⟨k,rfl⟩:∃ m,k=m+1:=⟨k - 1,by omega⟩
   have h':s.drop j=44::32::(g x++((L.flatMap fun x=>[44,32]++g x)++93::r)):=by rw[h];simp
   obtain⟨e1,e2,e3⟩:=cJ (c:=44) h' (by decide)
   obtain⟨e4,e5⟩:=mJ h'
   obtain⟨v1,v2,v3⟩:=hr x (by simp) (j+2) _ e5 (jw g L (.inl rfl))
   rw[gO ⟨e2,e3 _ (by decide)⟩,if_neg (by decide),e1,e4,v1]
   simp only
   rw[pf L (acc++[x]) (j+2+(g x).length) k r (fun y hy=>hr y (List.mem_cons_of_mem _ hy)) (by simp only[List.length_cons] at hk;omega) (bK e5)]
   rw[List.append_assoc,List.singleton_append,List.flatMap_cons,List.length_append,List.length_append]
   simp only[List.length_cons,List.length_nil]
   rw[show j+2+(g x).length+(L.flatMap fun x=>[44,32]++g x).length=j+(0+1+1+(g x).length+(L.flatMap fun x=>[44,32]++g x).length) by omega]
theorem tL {α:Type}(g:α→List UInt8)(L:List α):2*L.length≤(L.flatMap fun x=>[44,32]++g x).length:=by
 induction L with
 | nil=>simp
 | cons x L ih=>rw[List.flatMap_cons,List.length_append,List.length_append,List.length_cons];simp only[List.length_cons,List.length_nil];omega
theorem yS {s:List UInt8}{f d:Nat}{g:Val→List UInt8}{l:List Val}(hl:∀ x∈l,bC s f (d+1) x (g x)):bC s (f+1) d (.mk 8 0 0 [] l []) ([91]++aJ [44,32] (l.map g)++[93]):=by
 intro i r hs hr
 have h0:s.drop i=91::(aJ [44,32] (l.map g)++93::r):=by rw[hs];simp
 have hA:=wY h0 (by decide)
 obtain⟨_,h1⟩:=cy h0
 rw[hA]
 refine⟨?_,rfl,cP (by simp)⟩
 rw[cj rfl (.inr (.inr (.inr (.inr (.inl rfl)))))]
 unfold bj
 rw[if_neg (by simp),if_neg (by simp),if_neg (by simp),if_neg (by simp),if_pos rfl,eo]
 have key:cw (aI srt f (d+1)) (s.length+2) true [] (A s (i+1))=(l,A s (i+1+(aJ [44,32] (l.map g)).length)):=by
  cases l with
  | nil=>
    have hi:=pl (c:=93) h1 (by decide)
    rw[gN (fun q=>by rw[hi] at q;cases q.2)]
    simp[aJ]
  | cons x L=>
    rw[fl,List.append_assoc] at h1
    obtain⟨v1,v2,v3⟩:=hl x (by simp) (i+1) _ h1 (jw g L (.inl rfl))
    have hlen:L.length<s.length+1:=by
     have q:=congrArg List.length h1
     have q2:=tL g L
     rw[List.length_drop,List.length_append,List.length_append] at q
     omega
    rw[gO ⟨v2,v3⟩,if_pos rfl,v1]
    simp only
    rw[pf L ([]++[x]) _ (s.length+1) r (fun y hy=>hl y (List.mem_cons_of_mem _ hy)) hlen (bK h1),fl,List.length_append]
    simp only[List.nil_append,List.singleton_append]
    rw[Nat.add_assoc (i+1)]
 simp only
 rw[key]
 simp only
 have h2:=bK h1
 rw[(cJ (c:=93) h2 (by decide)).1]
 rw[show i+1+(aJ [44,32] (l.map g)).length+1=i+([91]++aJ [44,32] (l.map g)++[93]).length by simp;omega]
theorem rj {s w r:List UInt8}{i:Nat}{c:UInt8}(h:s.drop i=w++c::r)(hw:bA w=true)(hc:c=58∨c=40):A s i=⟨s,i+w.length,{ kind:=1,pos:=i,text:=w },0,0⟩:=by
 obtain⟨b,w',e,hb,ha⟩:=kB hw
 refine CN h e hb (jP e ha ?_) ha ?_
 ·rcases hc with rfl | rfl<;>simp
 ·rcases hc with rfl | rfl<;>rfl
theorem ol {s:List UInt8}{f d:Nat}{b:Bool}{R:Rd}{w X r:List UInt8}{v:Val}{j:Nat}{seen:List (List UInt8)}(hR:(if b=true then R else aD R [44])=A s j)(h:s.drop j=w++[58,32]++X++r)(hw:bA w=true)(hX:bC s f d v X)(hr:mI r)(hse:w∉seen) :
  (jk b R).1=w∧aI srt f d (aD (eV seen b R) [58])=(v,A s (j+(w++[58,32]++X).length)):=by
 have h1:s.drop j=w++58::(32::(X++r)):=by rw[h];simp
 have hA:=rj h1 hw (.inl rfl)
 have h2:=bK h1
 obtain⟨e1,e2,e3⟩:=cJ (c:=58) h2 (by decide)
 obtain⟨e4,e5⟩:=mJ h2
 have hn:jk b R=(w,A s (j+w.length)):=by
  unfold jk db
  rw[hR,hA,iY rfl rfl]
  simp only
  rw[eo,if_neg (by rw[hw];simp)]
 have hD:eV seen b R=A s (j+w.length):=by
  unfold eV
  rw[hn]
  exact if_neg (fun q=>hse q.2)
 refine⟨by rw[hn],?_⟩
 rw[hD,e1,e4,(hX _ _ e5 hr).1]
 rw[show j+w.length+2+X.length=j+(w++[58,32]++X).length by simp;omega]
def mc (g:Val→List UInt8)(x:Fld):List UInt8:=x.name++[58,32]++g x.value
theorem sJ {s:List UInt8}{f d:Nat}{g:Val→List UInt8}:∀ (L acc:List Fld) (seen:List (List UInt8)) (j k:Nat) (r:List UInt8),(∀ x∈L,bC s f d x.value (g x.value)∧bA x.name=true∧x.name∉seen)→(L.map Fld.name).Nodup→L.length<k →
  s.drop j=(L.flatMap fun x=>[44,32]++mc g x)++125::r→gC (aI srt f d) k false seen acc (A s j)=(acc++L,A s (j+(L.flatMap fun x=>[44,32]++mc g x).length))
 | [],acc,seen,j,k,r,_,_,_,h=>by
   have hi:=pl (c:=125) h (by decide)
   rw[ka (fun q=>by rw[hi] at q;cases q.2)]
   simp
 | x::L,acc,seen,j,k,r,hr,hnd,hk,h=>by
   obtain⟨k,rfl⟩:∃ m,k=m+1:=⟨k - 1,by omega⟩
   have h':s.drop j=44::32::(mc g x++((L.flatMap fun x=>[44,32]++mc g x)++125::r)):=by rw[h];simp
   obtain⟨e1,e2,e3⟩:=cJ (c:=44) h' (by decide)
   obtain⟨e4,e5⟩:=mJ h'
   obtain⟨x1,x2,x3⟩:=hr x (by simp)
   obtain⟨v1,v2⟩:=ol (R:=A s j) (b:=false) (j:=j+2) (w:=x.name) (X:=g x.value) (by rw[if_neg (by decide),e1,e4]) (by rw[e5];rfl) x2 x1 (jw (mc g) L (.inr rfl)) x3
   rw[List.map_cons,List.nodup_cons] at hnd
   rw[kb ⟨e2,e3 _ (by decide)⟩,v2,v1]
   simp only
   have hx:Fld.mk x.name x.value=x:=by cases x;rfl
   have hse:∀ y∈L,y.name∉qk seen x.name:=by
    intro y hy hm
    have hy3:=(hr y (List.mem_cons_of_mem _ hy)).2.2
    unfold qk at hm
    rw[if_neg x3] at hm
    rcases List.mem_append.1 hm with hm | hm
    ·exact hy3 hm
    ·exact hnd.1 (List.mem_map.2 ⟨y,hy,List.mem_singleton.1 hm⟩)
   have hfx:x.name++[58,32]++g x.value=mc g x:=rfl
   rw[hx,hfx,sJ L (acc++[x]) _ _ k r (fun y hy=>⟨(hr y (List.mem_cons_of_mem _ hy)).1,(hr y (List.mem_cons_of_mem _ hy)).2.1,hse y hy⟩) hnd.2 (by simp only[List.length_cons] at hk;omega) (bK e5)]
   rw[List.append_assoc,List.singleton_append,List.flatMap_cons,List.length_append,List.length_append]
   simp only[List.length_cons,List.length_nil]
   rw[show j+2+(mc g x).length+(L.flatMap fun x=>[44,32]++mc g x).length=j+(0+1+1+(mc g x).length+(L.flatMap fun x=>[44,32]++mc g x).length) by omega]
theorem pR:∀ (L:List (List UInt8)) (p:Option (List UInt8)),Hw p L→∀ s∈L,bA s=true
 | [],_,_,s,hs=>by cases hs
 | a::r,p,h,s,hs=>by
   rcases List.mem_cons.1 hs with rfl | hs
   ·exact h.1
   ·exact pR r _ h.2.2 s hs
theorem Co {L:List (List UInt8)}{p:Option (List UInt8)}(h:Hw p L):L.Nodup:=by
 refine (Cn L p h).imp fun {a b} hab e=>?_
 subst e
 rw[nx] at hab
 exact absurd hab (by decide)
theorem Ea {s:List UInt8}{f d:Nat}{g:Val→List UInt8}{l:List Fld}(hl:∀ x∈l,bC s f (d+1) x.value (g x.value))(hn:Hw none (l.map Fld.name)) :
  bC s (f+1) d (.mk 9 0 0 [] [] l) ([123]++aJ [44,32] (l.map (mc g))++[125]):=by
 intro i r hs hr
 have h0:s.drop i=123::(aJ [44,32] (l.map (mc g))++125::r):=by rw[hs];simp
 have hA:=wY h0 (by decide)
 obtain⟨_,h1⟩:=cy h0
 have hnm:=pR _ _ hn
 have hnd:=Co hn
 rw[hA]
 refine⟨?_,rfl,cP (by simp)⟩
 rw[cj rfl (.inr (.inr (.inr (.inr (.inr rfl)))))]
 unfold bj
 rw[if_neg (by simp),if_neg (by simp),if_neg (by simp),if_neg (by simp),if_neg (by simp),if_pos rfl,eo]
 have key:gC (aI srt f (d+1)) (s.length+2) true [] [] (A s (i+1))=(l,A s (i+1+(aJ [44,32] (l.map (mc g))).length)):=by
  cases l with
  | nil=>
    have hi:=pl (c:=125) h1 (by decide)
    rw[ka (fun q=>by rw[hi] at q;cases q.2)]
    simp[aJ]
  | cons x L=>
    rw[fl,List.append_assoc] at h1
    have x2:bA x.name=true:=hnm _ (by simp)
    have h1':s.drop (i+1)=x.name++58::(32::(g x.value++((L.flatMap fun y=>[44,32]++mc g y)++125::r))):=by rw[h1];simp[mc]
    have hAn:=rj h1' x2 (.inl rfl)
    obtain⟨v1,v2⟩:=ol (R:=A s (i+1)) (b:=true) (j:=i+1) (w:=x.name) (X:=g x.value) (seen:=[]) (if_pos rfl) (by rw[h1];rfl) x2 (hl x (by simp)) (jw (mc g) L (.inr rfl)) (by simp)
    have hlen:L.length<s.length+1:=by
     have q:=congrArg List.length h1
     have q2:=tL (mc g) L
     rw[List.length_drop,List.length_append,List.length_append] at q
     omega
    have he:(A s (i+1)).e=0∧isT (A s (i+1)) [125]=false:=by
     rw[hAn]
     obtain⟨b,w',e,hb,_⟩:=kB x2
     refine⟨rfl,cP ?_⟩
     simp only
     rw[e]
     intro q
     have:=(List.cons.inj q).1
     subst this
     exact absurd hb (by decide)
    rw[List.map_cons,List.nodup_cons] at hnd
    have hx:Fld.mk x.name x.value=x:=by cases x;rfl
    rw[kb he,v2,v1]
    simp only
    have hfx:x.name++[58,32]++g x.value=mc g x:=rfl
    rw[hx,hfx,sJ L ([]++[x]) _ _ (s.length+1) r (fun y hy=>⟨hl y (List.mem_cons_of_mem _ hy),hnm _ (List.mem_map.2 ⟨y,List.mem_cons_of_mem _ hy,rfl⟩),fun hm=>by
     simp only[qk,List.not_mem_nil,if_false,List.nil_append,List.mem_singleton] at hm
     exact hnd.1 (List.mem_map.2 ⟨y,hy,hm⟩)⟩) hnd.2 hlen (bK h1),fl,List.length_append]
    simp only[List.nil_append,List.singleton_append]
    rw[Nat.add_assoc (i+1)]
 simp only
 rw[key]
 simp only
 have h2:=bK h1
 rw[(cJ (c:=125) h2 (by decide)).1,LY hn]
 rw[show i+1+(aJ [44,32] (l.map (mc g))).length+1=i+([123]++aJ [44,32] (l.map (mc g))++[125]).length by simp;omega]
theorem D8 {s t X:List UInt8}{f d:Nat}{x:Val}(ht:bA t=true)(hx:bC s f (d+1) x X):bC s (f+1) d (.mk 10 0 0 t [x] []) (t++[40]++X++[41]):=by
 intro i r hs hr
 have h0:s.drop i=t++40::(X++41::r):=by rw[hs];simp
 have hA:=rj h0 ht (.inr rfl)
 have h1:=bK h0
 obtain⟨e1,e2,e3⟩:=cJ (c:=40) h1 (by decide)
 obtain⟨_,h2⟩:=cy h1
 have hst:mI (41::r):=fun c hc=>by
  have:c=41:=(Option.some.inj hc).symm
  exact .inr (.inr (.inr this))
 have hv:=(hx _ _ h2 hst).1
 have h3:=bK h2
 obtain⟨b,w',e,hb,ha⟩:=kB ht
 have hne:t≠[91]∧t≠[123]∧t≠[93]:=by
  rw[e]
  refine⟨fun q=>?_,fun q=>?_,fun q=>?_⟩ <;>
  ·have:=(List.cons.inj q).1
   subst this
   exact absurd hb (by decide)
 have hi:=pl (c:=40) h1 (by decide)
 have hadv:bm (A s (i+t.length))=A s (i+t.length+1):=by
  rw[wY h1 (by decide),eo]
 rw[hA]
 refine⟨?_,rfl,cP hne.2.2⟩
 rw[cj rfl (.inr (.inr (.inr (.inl rfl))))]
 unfold bj
 rw[if_neg (fun q=>absurd q.1 (by simp)),if_neg (by simp),if_neg (by simp),if_neg (by simp),if_neg hne.1,if_neg hne.2.1,eo,Al e2 hi ht,hadv,hv]
 simp only
 rw[(cJ (c:=41) h3 (by decide)).1]
 rw[show i+t.length+1+X.length+1=i+(t++[40]++X++[41]).length by simp;omega]
theorem gq:∀ l:List UInt8,(∀ b∈l,b.toNat<128)→Lib.validD l=true
 | [],_=>rfl
 | b::r,h=>by rw[Lib.validD_cons b r (h b (by simp))];exact gq r fun x hx=>h x (List.mem_cons_of_mem _ hx)
theorem cK (k a:Nat):∀ b∈aY k a,b.toNat<128:=fun b hb=>by
 have:=gS (List.all_eq_true.1 (fk k a) b hb)
 omega
theorem lm (y:Int)(m:Nat)(d:Int):∀ b∈cG y m d,b.toNat<128:=fun b hb=>by
 unfold cG at hb
 simp only[List.mem_append,List.mem_singleton] at hb
 rcases hb with (((h | h) | h) | h) | h
 ·exact cK _ _ b h
 ·subst h;decide
 ·exact cK _ _ b h
 ·subst h;decide
 ·exact cK _ _ b h
theorem rS {t:List UInt8}(ht:∀ b∈t,b.toNat<128)(h mi s ms:Nat):∀ b∈fJ t h mi s ms,b.toNat<128:=fun b hb=>by
 unfold fJ at hb
 simp only[List.mem_append,List.mem_singleton] at hb
 rcases hb with ((q | ((((q | q) | q) | q) | q) | q) | q) | q
 ·exact ht b q
 ·subst q;decide
 ·exact cK _ _ b q
 ·subst q;decide
 ·exact cK _ _ b q
 ·subst q;decide
 ·exact cK _ _ b q
 ·split at q
  ·cases q
  ·simp only[List.mem_append,List.mem_singleton] at q
   rcases q with q | q
   ·subst q;decide
   ·exact cK _ _ b q
 ·subst q;decide
theorem BI {n:Int}(h:-719162≤n∧n≤2932896):Lib.validD (nN n)=true∧cn (nN n)=(n,0):=by
 obtain⟨y,m,d,h1,h2,h3⟩:=(nq h.1 h.2).choose_spec.2
 rw[nN,dif_pos h,h3]
 exact⟨gq _ (lm _ _ _),by rw[q8 h1,← h2]⟩
theorem uF {n:Int}(h:-62135596800000≤n∧n≤253402300799999):Lib.validD (eY n)=true∧bP (eY n)=(n,0):=by
 obtain⟨y,m,d,hh,mi,sc,ms,h1,h2,h3,h4,h5,h6,h7⟩:=(jU h.1 h.2).choose_spec.2
 rw[eY,dif_pos h,h7]
 exact⟨gq _ (rS (lm _ _ _) _ _ _ _),by rw[qZ h1 h2 h3 h4 h5,← h6]⟩
end Go.Proofs.YtamoeblcphjbaaaGreatDoor
-- many steps
namespace Go.Proofs.YtamoeblcphjbaaaGreatDoor
open Go Go.Ab
attribute [local irreducible] vc
noncomputable def BY (v:Val):Int:=mq 0 (bt (iU v).choose 1 v)
theorem Kb (v:Val)(hv:v.ok):aq Tryz.prog aF 15 [v.pv] (.int .i64 (BY v)):=jL _ v (fF _ v (iU v).choose_spec) hv
noncomputable def LB (v:Val)(R:Rd):Val×Int×Int:=
 if R.e=0 then (if bQ v=true then (v,0,0) else if BY v=0 then (v,0,0) else (aP,(R.off:Int),BY v)) else (aP,(R.off:Int),R.e)
noncomputable def dd (s:List UInt8):Val×Int×Int:=LB (aI srt 8 0 (ce s)).1 (gi (aI srt 8 0 (ce s)).2)
section
variable {T:Nat}{p:PV}
theorem gI (s:List UInt8):OkT (ce s):=by
 by_cases h:65536<s.length
 ·rw[io h];intro h;exact absurd (show (5:Int)=0 from h) (by decide)
 ·rw[il h]
  rcases zW (s7 (s:=s) (by omega)) with h2 | h2
  ·exact h2
  ·rw[h2];exact fun _=>⟨cB,by simp[rd0],by simp[rd0],by simp[rd0],fun _=>rfl⟩
theorem j1 (s:List UInt8):(ce s).s=s:=by
 by_cases h:65536<s.length
 ·rw[io h]
 ·rw[il h,NP];rfl
theorem RD (s:List UInt8):(aI srt 8 0 (ce s)).1.ok∧aQ Tryz.prog (dM T p) 1 46 [.ptr 0 0,.pv (.int .i64 0)] [rdB (ce s)] (.pv (aI srt 8 0 (ce s)).1.pv) [rdB (aI srt 8 0 (ce s)).2]:=by
 by_cases h:s.length≤65536
 ·exact⟨(nS s h 8 0 _ (jB s) (gI s) (j1 s)).1,LP s h 8 0 rfl _ (jB s) (gI s) (j1 s)⟩
 ·have he:¬ (ce s).e=0:=by rw[io (by omega)];exact fun h=>absurd (show (5:Int)=0 from h) (by decide)
  rw[qn he]
  refine⟨dL,?_⟩
  generalize ce s=R at *
  simp only[rdB,rdC,aP,Val.pv_mk]
  refine aQ.intro cp (by simp[F46]) ?_
  simp(disch:=try exact dI) only[F46,he,push_cast,seval]
  exact ap [] qsZ
set_option maxHeartbeats 2000000 in
theorem zy (s:List UInt8):aq Tryz.prog (dM T p) 18 [.str s] (.tup [(dd s).1.pv,.int .i64 (dd s).2.1,.int .i64 (dd s).2.2]):=by
 have h45:=H3 (T:=T) (p:=p) s
 obtain⟨hok,h46⟩:=RD (T:=T) (p:=p) s
 unfold dd
 generalize ce s=R0 at *
 generalize aI srt 8 0 R0=q at *
 obtain⟨v,R1⟩:=q
 simp only at hok h46 ⊢
 have h47:=FO (T:=T) (p:=p) R1
 have h16:=toE (T:=T) (p:=p) (re v)
 have h15:=toE (T:=T) (p:=p) (Kb v hok)
 unfold LB
 generalize gi R1=R2 at *
 generalize BY v=c at *
 generalize bQ v=b at *
 obtain⟨w1,w2,w3,w4,w5,w6⟩:=v
 simp only[rdB,rdC,Val.pv_mk] at h45 h46 h47 h16 h15
 by_cases he:R2.e=0
 ·have heI:(R2.e=0)=True:=eq_true he
  rw[if_pos he]
  cases b with
  | true=>
    rw[if_pos rfl]
    refine aq.intro uh (by simp[F18]) ?_
    simp(disch:=try exact dI) only[F18,Val.pv_mk,push_cast,seval]
    refine ab.lentK h45 [] rfl qsZ qsZ ?_
    simp(disch:=try exact dI) only[push_cast,seval]
    refine ab.lentK h46 [1] rfl qsZ qsZ ?_
    simp(disch:=try exact dI) only[push_cast,seval]
    refine ab.lentK h47 [1] rfl qsZ qsZ ?_
    simp(disch:=try exact dI) only[heI,push_cast,seval]
    refine ab.pure h16 rfl ?_
    simp(disch:=try exact dI) only[heI,push_cast,seval]
  | false=>
    rw[if_neg (by decide)]
    by_cases hc:c=0
    ·have hcI:(c=0)=True:=eq_true hc
     rw[if_pos hc]
     refine aq.intro uh (by simp[F18]) ?_
     simp(disch:=try exact dI) only[F18,Val.pv_mk,push_cast,seval]
     refine ab.lentK h45 [] rfl qsZ qsZ ?_
     simp(disch:=try exact dI) only[push_cast,seval]
     refine ab.lentK h46 [1] rfl qsZ qsZ ?_
     simp(disch:=try exact dI) only[push_cast,seval]
     refine ab.lentK h47 [1] rfl qsZ qsZ ?_
     simp(disch:=try exact dI) only[heI,push_cast,seval]
     refine ab.pure h16 rfl ?_
     simp(disch:=try exact dI) only[push_cast,seval]
     refine ab.pure h15 rfl ?_
     simp(disch:=try exact dI) only[hcI,push_cast,seval]
    ·rw[if_neg hc]
     refine aq.intro uh (by simp[F18]) ?_
     simp(disch:=try exact dI) only[F18,Val.pv_mk,aP,push_cast,seval]
     refine ab.lentK h45 [] rfl qsZ qsZ ?_
     simp(disch:=try exact dI) only[push_cast,seval]
     refine ab.lentK h46 [1] rfl qsZ qsZ ?_
     simp(disch:=try exact dI) only[push_cast,seval]
     refine ab.lentK h47 [1] rfl qsZ qsZ ?_
     simp(disch:=try exact dI) only[heI,push_cast,seval]
     refine ab.pure h16 rfl ?_
     simp(disch:=try exact dI) only[push_cast,seval]
     refine ab.pure h15 rfl ?_
     simp(disch:=try exact dI) only[hc,push_cast,seval]
 ·rw[if_neg he]
  refine aq.intro uh (by simp[F18]) ?_
  simp(disch:=try exact dI) only[F18,Val.pv_mk,aP,push_cast,seval]
  refine ab.lentK h45 [] rfl qsZ qsZ ?_
  simp(disch:=try exact dI) only[push_cast,seval]
  refine ab.lentK h46 [1] rfl qsZ qsZ ?_
  simp(disch:=try exact dI) only[push_cast,seval]
  refine ab.lentK h47 [1] rfl qsZ qsZ ?_
  simp(disch:=try exact dI) only[he,push_cast,seval]
end
end Go.Proofs.YtamoeblcphjbaaaGreatDoor
