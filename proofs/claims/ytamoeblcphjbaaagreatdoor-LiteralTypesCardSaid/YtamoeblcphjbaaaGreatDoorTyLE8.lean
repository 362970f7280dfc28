/- A part. -/
import Derived.Lib.ValidLaws
import Derived.Test.YtamoeblcphjbaaaGreatDoorTyLE6
set_option linter.unusedVariables false
set_option linter.unusedSimpArgs false
set_option maxHeartbeats 16000000
set_option maxRecDepth 100000
open List renaming map_cons->WP,flatMap_cons->Xf,nil_append->WO,cons_append->WQ,mem_cons_of_mem->Xj,length_cons->WG,append_assoc->WS,singleton_append->Xc,length_append->WF,length_nil->WL,length_drop->Xh,mem_append->Xk,mem_map->Xo,mem_singleton->XE,all_eq_true->W8,map_nil->Xp,eq_nil_of_length_eq_zero->WY,getElem?_eq_getElem->WE,mem_of_getElem?->WK,take_length->WV
open Option.some renaming injEq->WJ
open Bool renaming and_eq_true->WT
namespace Go.Proofs.YtamoeblcphjbaaaGreatDoor
open Go Go.Ab Go.RowKit
theorem eU {α:Type}(g:α->List UInt8)(x:α):∀ L:List α,aM [44,32] ((x::L).map g)=g x++L.flatMap fun y=>[44,32]++g y
 | []=>by simp[aM]
 | y::L=>by
   have ih:=eU g y L
   rw[WP,WP,aM,Xf,<- WP,ih]
   simp
theorem lc {r:List UInt8}{c:UInt8}{α:Type}(g:α->List UInt8)(L:List α)(hc:c=93\/c=125):nC ((L.flatMap fun y=>[44,32]++g y)++c::r):=by
 intro b hb
 cases L with
 | nil=>
   simp only[List.flatMap_nil,WO,List.head?_cons,WJ] at hb
   subst hb
   rcases hc with h | h
   ·exact .inr (.inl h)
   ·exact .inr (.inr (.inl h))
 | cons x L=>
   simp only[Xf,WQ,List.head?_cons,WJ] at hb
   exact .inl hb.symm
theorem aZ {s r:List UInt8}{j:Nat}{c:UInt8}(h:s.drop j=c::r)(hc:vP c=true):aw (A s j) [c]=A s (j+1)/\(A s j).e=0/\∀ t,t≠[c]->isT (A s j) t=false:=by
 rw[nu h hc]
 have hi:isT ⟨s,j+1,{ kind:=5,pos:=j,text:=[c] },0,0⟩ [c]=true:=uJ rfl rfl rfl
 refine⟨?_,rfl,fun t ht=>dq (fun q=>ht q.symm)⟩
 unfold aw
 rw[if_pos rfl,if_pos hi,cP]
theorem jl {s r:List UInt8}{j:Nat}{c:UInt8}(h:s.drop j=c::r)(hc:vP c=true):isT (A s j) [c]=true:=by
 rw[nu h hc];exact uJ rfl rfl rfl
theorem dL {s r:List UInt8}{j:Nat}{c:UInt8}(h:s.drop j=c::32::r):A s (j+1)=A s (j+2)/\s.drop (j+2)=r:=by
 obtain⟨_,h1⟩:=bt h
 obtain⟨h2,h3⟩:=bt h1
 exact⟨nv h2 (by decide),h3⟩
theorem rZ {s:List UInt8}{f d:Nat}{g:Val->List UInt8}:∀ (L acc:List Val) (j k:Nat) (r:List UInt8),(∀ x∈L,bJ s f d x (g x))->L.length<k ->
  s.drop j=(L.flatMap fun x=>[44,32]++g x)++93::r->fB (aS srt f d) k false acc (A s j)=(acc++L,A s (j+(L.flatMap fun x=>[44,32]++g x).length))
 | [],acc,j,k,r,_,_,h=>by
   have hi:=jl (c:=93) h (by decide)
   rw[lh (fun q=>by rw[hi] at q;cases q.2)]
   simp
 | x::L,acc,j,k,r,hr,hk,h=>by
   obtain⟨k,rfl⟩:∃ m,k=m+1:=⟨k - 1,by omega⟩
   have h':s.drop j=44::32::(g x++((L.flatMap fun x=>[44,32]++g x)++93::r)):=by rw[h];simp
   obtain⟨e1,e2,e3⟩:=aZ (c:=44) h' (by decide)
   obtain⟨e4,e5⟩:=dL h'
   obtain⟨v1,v2,v3⟩:=hr x (by simp) (j+2) _ e5 (lc g L (.inl rfl))
   rw[lj ⟨e2,e3 _ (by decide)⟩,if_neg (by decide),e1,e4,v1]
   simp only
   rw[rZ L (acc++[x]) (j+2+(g x).length) k r (fun y hy=>hr y (Xj _ hy)) (by simp only[WG] at hk;omega) (aQ e5)]
   rw[WS,Xc,Xf,WF,WF]
   simp only[WG,WL]
   rw[show j+2+(g x).length+(L.flatMap fun x=>[44,32]++g x).length=j+(0+1+1+(g x).length+(L.flatMap fun x=>[44,32]++g x).length) by omega]
theorem xC {α:Type}(g:α->List UInt8)(L:List α):2*L.length<=(L.flatMap fun x=>[44,32]++g x).length:=by
 induction L with
 | nil=>simp
 | cons x L ih=>rw[Xf,WF,WF,WG];simp only[WG,WL];omega
theorem CI {s:List UInt8}{f d:Nat}{g:Val->List UInt8}{l:List Val}(hl:∀ x∈l,bJ s f (d+1) x (g x)):bJ s (f+1) d (.mk 8 0 0 [] l []) ([91]++aM [44,32] (l.map g)++[93]):=by
 intro i r hs hr
 have h0:s.drop i=91::(aM [44,32] (l.map g)++93::r):=by rw[hs];simp
 have hA:=nu h0 (by decide)
 obtain⟨_,h1⟩:=bt h0
 rw[hA]
 refine⟨?_,rfl,dq (by simp)⟩
 rw[ga rfl (.inr (.inr (.inr (.inr (.inl rfl)))))]
 unfold eL
 rw[if_neg (by simp),if_neg (by simp),if_neg (by simp),if_neg (by simp),if_pos rfl,cP]
 have key:fB (aS srt f (d+1)) (s.length+2) true [] (A s (i+1))=(l,A s (i+1+(aM [44,32] (l.map g)).length)):=by
  cases l with
  | nil=>
    have hi:=jl (c:=93) h1 (by decide)
    rw[lh (fun q=>by rw[hi] at q;cases q.2)]
    simp[aM]
  | cons x L=>
    rw[eU,WS] at h1
    obtain⟨v1,v2,v3⟩:=hl x (by simp) (i+1) _ h1 (lc g L (.inl rfl))
    have hlen:L.length<s.length+1:=by
     have q:=congrArg List.length h1
     have q2:=xC g L
     rw[Xh,WF,WF] at q
     omega
    rw[lj ⟨v2,v3⟩,if_pos rfl,v1]
    simp only
    rw[rZ L ([]++[x]) _ (s.length+1) r (fun y hy=>hl y (Xj _ hy)) hlen (aQ h1),eU,WF]
    simp only[WO,Xc]
    rw[Nat.add_assoc (i+1)]
 simp only
 rw[key]
 simp only
 have h2:=aQ h1
 rw[(aZ (c:=93) h2 (by decide)).1]
 rw[show i+1+(aM [44,32] (l.map g)).length+1=i+([91]++aM [44,32] (l.map g)++[93]).length by simp;omega]
theorem ug {s w r:List UInt8}{i:Nat}{c:UInt8}(h:s.drop i=w++c::r)(hw:bz w=true)(hc:c=58\/c=40):A s i=⟨s,i+w.length,{ kind:=1,pos:=i,text:=w },0,0⟩:=by
 obtain⟨b,w',e,hb,ha⟩:=jg hw
 refine sX h e hb (f8 e ha ?_) ha ?_
 ·rcases hc with rfl | rfl<;>simp
 ·rcases hc with rfl | rfl<;>rfl
theorem qW {s:List UInt8}{f d:Nat}{b:Bool}{R:Rd}{w X r:List UInt8}{v:Val}{j:Nat}{seen:List (List UInt8)}(hR:(if b=true then R else aw R [44])=A s j)(h:s.drop j=w++[58,32]++X++r)(hw:bz w=true)(hX:bJ s f d v X)(hr:nC r)(hse:w∉seen) :
  (tE b R).1=w/\aS srt f d (aw (nY seen b R) [58])=(v,A s (j+(w++[58,32]++X).length)):=by
 have h1:s.drop j=w++58::(32::(X++r)):=by rw[h];simp
 have hA:=ug h1 hw (.inl rfl)
 have h2:=aQ h1
 obtain⟨e1,e2,e3⟩:=aZ (c:=58) h2 (by decide)
 obtain⟨e4,e5⟩:=dL h2
 have hn:tE b R=(w,A s (j+w.length)):=by
  unfold tE fX
  rw[hR,hA,ku rfl rfl]
  simp only
  rw[cP,if_neg (by rw[hw];simp)]
 have hD:nY seen b R=A s (j+w.length):=by
  unfold nY
  rw[hn]
  exact if_neg (fun q=>hse q.2)
 refine⟨by rw[hn],?_⟩
 rw[hD,e1,e4,(hX _ _ e5 hr).1]
 rw[show j+w.length+2+X.length=j+(w++[58,32]++X).length by simp;omega]
def oE (g:Val->List UInt8)(x:Fld):List UInt8:=x.name++[58,32]++g x.value
theorem wh {s:List UInt8}{f d:Nat}{g:Val->List UInt8}:∀ (L acc:List Fld) (seen:List (List UInt8)) (j k:Nat) (r:List UInt8),(∀ x∈L,bJ s f d x.value (g x.value)/\bz x.name=true/\x.name∉seen)->(L.map Fld.name).Nodup->L.length<k ->
  s.drop j=(L.flatMap fun x=>[44,32]++oE g x)++125::r->pl (aS srt f d) k false seen acc (A s j)=(acc++L,A s (j+(L.flatMap fun x=>[44,32]++oE g x).length))
 | [],acc,seen,j,k,r,_,_,_,h=>by
   have hi:=jl (c:=125) h (by decide)
   rw[pj (fun q=>by rw[hi] at q;cases q.2)]
   simp
 | x::L,acc,seen,j,k,r,hr,hnd,hk,h=>by
   obtain⟨k,rfl⟩:∃ m,k=m+1:=⟨k - 1,by omega⟩
   have h':s.drop j=44::32::(oE g x++((L.flatMap fun x=>[44,32]++oE g x)++125::r)):=by rw[h];simp
   obtain⟨e1,e2,e3⟩:=aZ (c:=44) h' (by decide)
   obtain⟨e4,e5⟩:=dL h'
   obtain⟨x1,x2,x3⟩:=hr x (by simp)
   obtain⟨v1,v2⟩:=qW (R:=A s j) (b:=false) (j:=j+2) (w:=x.name) (X:=g x.value) (by rw[if_neg (by decide),e1,e4]) (by rw[e5];rfl) x2 x1 (lc (oE g) L (.inr rfl)) x3
   rw[WP,List.nodup_cons] at hnd
   rw[pk ⟨e2,e3 _ (by decide)⟩,v2,v1]
   simp only
   have hx:Fld.mk x.name x.value=x:=by cases x;rfl
   have hse:∀ y∈L,y.name∉Km seen x.name:=by
    intro y hy hm
    have hy3:=(hr y (Xj _ hy)).2.2
    unfold Km at hm
    rw[if_neg x3] at hm
    rcases Xk.1 hm with hm | hm
    ·exact hy3 hm
    ·exact hnd.1 (Xo.2 ⟨y,hy,XE.1 hm⟩)
   have hfx:x.name++[58,32]++g x.value=oE g x:=rfl
   rw[hx,hfx,wh L (acc++[x]) _ _ k r (fun y hy=>⟨(hr y (Xj _ hy)).1,(hr y (Xj _ hy)).2.1,hse y hy⟩) hnd.2 (by simp only[WG] at hk;omega) (aQ e5)]
   rw[WS,Xc,Xf,WF,WF]
   simp only[WG,WL]
   rw[show j+2+(oE g x).length+(L.flatMap fun x=>[44,32]++oE g x).length=j+(0+1+1+(oE g x).length+(L.flatMap fun x=>[44,32]++oE g x).length) by omega]
theorem sJ:∀ (L:List (List UInt8)) (p:Option (List UInt8)),L7 p L->∀ s∈L,bz s=true
 | [],_,_,s,hs=>by cases hs
 | a::r,p,h,s,hs=>by
   rcases List.mem_cons.1 hs with rfl | hs
   ·exact h.1
   ·exact sJ r _ h.2.2 s hs
theorem Ga {L:List (List UInt8)}{p:Option (List UInt8)}(h:L7 p L):L.Nodup:=by
 refine (F9 L p h).imp fun {a b} hab e=>?_
 subst e
 rw[qm] at hab
 exact absurd hab (by decide)
theorem HS {s:List UInt8}{f d:Nat}{g:Val->List UInt8}{l:List Fld}(hl:∀ x∈l,bJ s f (d+1) x.value (g x.value))(hn:L7 none (l.map Fld.name)) :
  bJ s (f+1) d (.mk 9 0 0 [] [] l) ([123]++aM [44,32] (l.map (oE g))++[125]):=by
 intro i r hs hr
 have h0:s.drop i=123::(aM [44,32] (l.map (oE g))++125::r):=by rw[hs];simp
 have hA:=nu h0 (by decide)
 obtain⟨_,h1⟩:=bt h0
 have hnm:=sJ _ _ hn
 have hnd:=Ga hn
 rw[hA]
 refine⟨?_,rfl,dq (by simp)⟩
 rw[ga rfl (.inr (.inr (.inr (.inr (.inr rfl)))))]
 unfold eL
 rw[if_neg (by simp),if_neg (by simp),if_neg (by simp),if_neg (by simp),if_neg (by simp),if_pos rfl,cP]
 have key:pl (aS srt f (d+1)) (s.length+2) true [] [] (A s (i+1))=(l,A s (i+1+(aM [44,32] (l.map (oE g))).length)):=by
  cases l with
  | nil=>
    have hi:=jl (c:=125) h1 (by decide)
    rw[pj (fun q=>by rw[hi] at q;cases q.2)]
    simp[aM]
  | cons x L=>
    rw[eU,WS] at h1
    have x2:bz x.name=true:=hnm _ (by simp)
    have h1':s.drop (i+1)=x.name++58::(32::(g x.value++((L.flatMap fun y=>[44,32]++oE g y)++125::r))):=by rw[h1];simp[oE]
    have hAn:=ug h1' x2 (.inl rfl)
    obtain⟨v1,v2⟩:=qW (R:=A s (i+1)) (b:=true) (j:=i+1) (w:=x.name) (X:=g x.value) (seen:=[]) (if_pos rfl) (by rw[h1];rfl) x2 (hl x (by simp)) (lc (oE g) L (.inr rfl)) (by simp)
    have hlen:L.length<s.length+1:=by
     have q:=congrArg List.length h1
     have q2:=xC (oE g) L
     rw[Xh,WF,WF] at q
     omega
    have he:(A s (i+1)).e=0/\isT (A s (i+1)) [125]=false:=by
     rw[hAn]
     obtain⟨b,w',e,hb,_⟩:=jg x2
     refine⟨rfl,dq ?_⟩
     simp only
     rw[e]
     intro q
     have:=(List.cons.inj q).1
     subst this
     exact absurd hb (by decide)
    rw[WP,List.nodup_cons] at hnd
    have hx:Fld.mk x.name x.value=x:=by cases x;rfl
    rw[pk he,v2,v1]
    simp only
    have hfx:x.name++[58,32]++g x.value=oE g x:=rfl
    rw[hx,hfx,wh L ([]++[x]) _ _ (s.length+1) r (fun y hy=>⟨hl y (Xj _ hy),hnm _ (Xo.2 ⟨y,Xj _ hy,rfl⟩),fun hm=>by
     simp only[Km,List.not_mem_nil,if_false,WO,XE] at hm
     exact hnd.1 (Xo.2 ⟨y,hy,hm⟩)⟩) hnd.2 hlen (aQ h1),eU,WF]
    simp only[WO,Xc]
    rw[Nat.add_assoc (i+1)]
 simp only
 rw[key]
 simp only
 have h2:=aQ h1
 rw[(aZ (c:=125) h2 (by decide)).1,Qr hn]
 rw[show i+1+(aM [44,32] (l.map (oE g))).length+1=i+([123]++aM [44,32] (l.map (oE g))++[125]).length by simp;omega]
theorem HQ {s t X:List UInt8}{f d:Nat}{x:Val}(ht:bz t=true)(hx:bJ s f (d+1) x X):bJ s (f+1) d (.mk 10 0 0 t [x] []) (t++[40]++X++[41]):=by
 intro i r hs hr
 have h0:s.drop i=t++40::(X++41::r):=by rw[hs];simp
 have hA:=ug h0 ht (.inr rfl)
 have h1:=aQ h0
 obtain⟨e1,e2,e3⟩:=aZ (c:=40) h1 (by decide)
 obtain⟨_,h2⟩:=bt h1
 have hst:nC (41::r):=fun c hc=>by
  have:c=41:=(Option.some.inj hc).symm
  exact .inr (.inr (.inr this))
 have hv:=(hx _ _ h2 hst).1
 have h3:=aQ h2
 obtain⟨b,w',e,hb,ha⟩:=jg ht
 have hne:t≠[91]/\t≠[123]/\t≠[93]:=by
  rw[e]
  refine⟨fun q=>?_,fun q=>?_,fun q=>?_⟩ <;>
  ·have:=(List.cons.inj q).1
   subst this
   exact absurd hb (by decide)
 have hi:=jl (c:=40) h1 (by decide)
 have hadv:bi (A s (i+t.length))=A s (i+t.length+1):=by
  rw[nu h1 (by decide),cP]
 rw[hA]
 refine⟨?_,rfl,dq hne.2.2⟩
 rw[ga rfl (.inr (.inr (.inr (.inl rfl))))]
 unfold eL
 rw[if_neg (fun q=>absurd q.1 (by simp)),if_neg (by simp),if_neg (by simp),if_neg (by simp),if_neg hne.1,if_neg hne.2.1,cP,DH e2 hi ht,hadv,hv]
 simp only
 rw[(aZ (c:=41) h3 (by decide)).1]
 rw[show i+t.length+1+X.length+1=i+(t++[40]++X++[41]).length by simp;omega]
theorem iK:∀ l:List UInt8,(∀ b∈l,b.toNat<128)->Lib.validD l=true
 | [],_=>rfl
 | b::r,h=>by rw[Lib.validD_cons b r (h b (by simp))];exact iK r fun x hx=>h x (Xj _ hx)
theorem dn (k a:Nat):∀ b∈bn k a,b.toNat<128:=fun b hb=>by
 have:=jm (W8.1 (gv k a) b hb)
 omega
theorem nq (y:Int)(m:Nat)(d:Int):∀ b∈de y m d,b.toNat<128:=fun b hb=>by
 unfold de at hb
 simp only[Xk,XE] at hb
 rcases hb with (((h | h) | h) | h) | h
 ·exact dn _ _ b h
 ·subst h;decide
 ·exact dn _ _ b h
 ·subst h;decide
 ·exact dn _ _ b h
theorem vi {t:List UInt8}(ht:∀ b∈t,b.toNat<128)(h mi s ms:Nat):∀ b∈g7 t h mi s ms,b.toNat<128:=fun b hb=>by
 unfold g7 at hb
 simp only[Xk,XE] at hb
 rcases hb with ((q | ((((q | q) | q) | q) | q) | q) | q) | q
 ·exact ht b q
 ·subst q;decide
 ·exact dn _ _ b q
 ·subst q;decide
 ·exact dn _ _ b q
 ·subst q;decide
 ·exact dn _ _ b q
 ·split at q
  ·cases q
  ·simp only[Xk,XE] at q
   rcases q with q | q
   ·subst q;decide
   ·exact dn _ _ b q
 ·subst q;decide
theorem m8 {n:Int}(h:-719162<=n/\n<=2932896):Lib.validD (gV n)=true/\bU (gV n)=(n,0):=by
 obtain⟨y,m,d,h1,h2,h3⟩:=(lx h.1 h.2).choose_spec.2
 rw[gV,dif_pos h,h3]
 exact⟨iK _ (nq _ _ _),by rw[tY h1,<- h2]⟩
theorem jI {n:Int}(h:-62135596800000<=n/\n<=253402300799999):Lib.validD (ct n)=true/\bG (ct n)=(n,0):=by
 obtain⟨y,m,d,hh,mi,sc,ms,h1,h2,h3,h4,h5,h6,h7⟩:=(iT h.1 h.2).choose_spec.2
 rw[ct,dif_pos h,h7]
 exact⟨iK _ (vi (nq _ _ _) _ _ _ _),by rw[tW h1 h2 h3 h4 h5,<- h6]⟩
def B0:List PV->Option (List (List UInt8))
 | []=>some []
 | .str s::r=>match B0 r with
   | some l=>some (s::l)
   | none=>none
 | _=>none
theorem vQ:∀ {l:List PV} {ss:List (List UInt8)},B0 l=some ss->l=ss.map .str
 | [],ss,h=>by simp only[B0,WJ] at h;subst h;rfl
 | x::r,ss,h=>by
   unfold B0 at h
   split at h
   ·rename_i e;cases e
   ·rename_i s r' e
    cases e
    split at h
    ·rename_i l hl
     cases h
     rw[vQ hl];rfl
    ·cases h
   ·cases h
def eqL (p:PV->PV->Bool):List PV->List PV->Bool
 | [],[]=>true
 | x::r,y::q=>p x y&&eqL p r q
 | _,_=>false
def eqP:Nat->PV->PV->Bool
 | n+1,.int k a,.int k' b=>decide (k=k')&&decide (a=b)
 | n+1,.str a,.str b=>decide (a=b)
 | n+1,.nils,.nils=>true
 | n+1,.agg a,.agg b=>eqL (eqP n) a b
 | n+1,.list a,.list b=>eqL (eqP n) a b
 | _,_,_=>false
theorem Fb {p:PV->PV->Bool}(hp:∀ x y,p x y=true->x=y):∀ a b,eqL p a b=true->a=b
 | [],[],_=>rfl
 | x::r,y::q,h=>by
   simp only[eqL,WT] at h
   rw[hp x y h.1,Fb hp r q h.2]
 | [],y::q,h=>by simp[eqL] at h
 | x::r,[],h=>by simp[eqL] at h
theorem xI:∀ n x y,eqP n x y=true->x=y
 | 0,x,y,h=>by simp[eqP] at h
 | n+1,x,y,h=>by
   unfold eqP at h
   split at h
   ·simp only[WT,decide_eq_true_eq] at h;rw[h.1,h.2]
   ·simp only[decide_eq_true_eq] at h;rw[h]
   ·rfl
   ·rw[Fb (xI _) _ _ h]
   ·rw[Fb (xI _) _ _ h]
   ·cases h
def v1:Val:=.mk 9 0 0 [] [] [.mk [97] (.mk 3 1250 2 [] [] []),.mk [98] (.mk 8 0 0 [] [.mk 1 1 0 [] [] [],.mk 4 0 0 [97,34,98] [] []] []),.mk [99] (.mk 10 0 0 [99,97,114,100] [.mk 6 0 0 [] [] []] [])]
def v1P:PV:=.agg [.int .i64 9,.int .i64 0,.int .i64 0,.str [],.nils,.list [.agg [.str [97],.int .i64 3,.int .i64 1250,.int .i64 2,.str [],.nils,.nils],.agg [.str [98],.int .i64 8,.int .i64 0,.int .i64 0,.str [],.list [.agg [.int .i64 1,.int .i64 1,.int .i64 0,.str [],.nils,.nils],.agg [.int .i64 4,.int .i64 0,.int .i64 0,.str [97,34,98],.nils,.nils]],.nils],.agg [.str [99],.int .i64 10,.int .i64 0,.int .i64 0,.str [99,97,114,100],.list [.agg [.int .i64 6,.int .i64 0,.int .i64 0,.str [],.nils,.nils]],.nils]]]
def v2:Val:=.mk 9 0 0 [] [] [.mk [97] (.mk 3 2 0 [] [] []),.mk [98] (.mk 2 1 0 [] [] [])]
def v2P:PV:=.agg [.int .i64 9,.int .i64 0,.int .i64 0,.str [],.nils,.list [.agg [.str [97],.int .i64 3,.int .i64 2,.int .i64 0,.str [],.nils,.nils],.agg [.str [98],.int .i64 2,.int .i64 1,.int .i64 0,.str [],.nils,.nils]]]
theorem J6:am Tryz.prog aC 15 [v1P] (.int .i64 0):=by
 have h:=lB 4 v1 (by simp[v1,ia,bu,Val.kind,Val.fields,Val.lst,Fld.value]) (by simp[v1,WC,Wp,I64])
 have e:lz 0 (bF 4 1 v1)=0:=by decide +kernel
 rw[e] at h
 refine h.nz ?_
 simp only[v1P,v1,WD,Wq,WP,Xp]
 repeat' constructor
theorem J5:am Tryz.prog aC 15 [v2P] (.int .i64 0):=by
 have h:=lB 3 v2 (by simp[v2,ia,bu,Val.kind,Val.fields,Fld.value]) (by simp[v2,WC,Wp,I64])
 have e:lz 0 (bF 3 1 v2)=0:=by decide +kernel
 rw[e] at h
 refine h.nz ?_
 simp only[v2P,v2,WD,Wq,WP,Xp]
 repeat' constructor
def orc (f:Nat)(ps:List PV):Option PV:=
 match f with
 | 66=>match ps with
   | [.int .i64 n]=>if -9223372036854775808<=n/\n<=9223372036854775807 then some (.str (aN n)) else none
   | _=>none
 | 103=>match ps with
   | [.str a,.str b]=>some (.int .i64 (Lib.compareBytes a b))
   | _=>none
 | 141=>match ps with
   | [.list l,.str s]=>match B0 l with
     | some ss=>if ss.length<=140737488355328/\(aM s ss).length<=140737488355328 then some (.str (aM s ss)) else none
     | none=>none
   | _=>none
 | 88=>match ps with
   | [.str a,.int .i64 n]=>if 0<=n/\n<=9223372036854775807/\a.length*n.toNat<=140737488355328 then some (.str (Lib.repeatL a n.toNat)) else none
   | _=>none
 | 15=>match ps with
   | [p]=>if eqP 6 p v1P=true then some (.int .i64 0) else if eqP 6 p v2P=true then some (.int .i64 0) else none
   | _=>none
 | _=>none
theorem Q7:∀ f ps r,orc f ps=some r->am Tryz.prog aC f ps r:=by
 intro f ps r h
 unfold orc at h
 split at h
 ·split at h
  ·split at h
   ·rename_i hh;cases h;exact eF _ hh.1 hh.2
   ·cases h
  ·cases h
 ·split at h
  ·cases h;exact kj _ _
  ·cases h
 ·split at h
  ·split at h
   ·rename_i e
    split at h
    ·rename_i hh;cases h
     rw[vQ e]
     exact pJ _ _ hh.1 hh.2
    ·cases h
   ·cases h
  ·cases h
 ·split at h
  ·split at h
   ·rename_i hh;cases h;exact qS _ _ hh.1 hh.2.1 hh.2.2
   ·cases h
  ·cases h
 ·split at h
  ·split at h
   ·rename_i hh;cases h;rw[xI _ _ _ hh];exact J6
   ·split at h
    ·rename_i hh;cases h;rw[xI _ _ _ hh];exact J5
    ·cases h
  ·cases h
 ·cases h
noncomputable def gFn (p:Nat×List Nat):TabRow:=⟨p.1,p.2,(cFn Tryz.prog p.2 p.1).getD ⟨0,[],.skip⟩⟩
def K4:List (Nat×List Nat):=[(12,[]),(14,[]),(16,[]),(18,[]),(20,[]),(26,[]),(31,[]),(33,[]),(36,[]),(37,[]),(42,[]),(43,[]),(45,[]),(46,[]),(47,[]),(49,[14]),(52,[]),(56,[124,1000168,1000123]),(63,[]),(64,[]),(65,[]),(67,[]),(68,[]),(82,[]),(86,[]),(87,[]),(89,[]),(90,[]),(92,[]),(93,[]),(94,[]),(95,[]),(99,[59,1000066]),(107,[19]),(113,[44]),(120,[]),(121,[]),(122,[]),(123,[]),(131,[]),(132,[]),(133,[]),(134,[]),(142,[]),(143,[]),(145,[]),(146,[]),(151,[]),(154,[]),(155,[]),(156,[]),(157,[]),(158,[]),(159,[]),(162,[]),(163,[]),(164,[]),(165,[]),(166,[]),(167,[]),(168,[]),(184,[]),(185,[12]),(189,[]),(195,[]),(196,[]),(198,[]),(203,[]),(206,[]),(209,[]),(210,[]),(211,[]),(215,[]),(220,[]),(221,[]),(225,[]),(226,[]),(236,[]),(237,[]),(248,[]),(254,[]),(261,[])]
theorem Qk {l:List (Nat×List Nat)}(h:(l.all fun p=>(cFn Tryz.prog p.2 p.1).isSome)=true):∀ r∈l.map gFn,cFn Tryz.prog r.muts r.f=some r.fn:=by
 intro r hr
 obtain⟨p,hp,rfl⟩:=Xo.1 hr
 have h:=W8.1 h p hp
 simp only[gFn]
 cases h':cFn Tryz.prog p.2 p.1 with
 | some x=>rfl
 | none=>rw[h'] at h;cases h
theorem Qt:(K4.all fun p=>(cFn Tryz.prog p.2 p.1).isSome)=true:=by kernel_rfl
theorem Wj:zy (exF (K4.map gFn) orc aC 20000 200) 12 []=some (.bool true):=by kernel_rfl
theorem Od:am Tryz.prog aC 12 [] (.bool true):=am.of_ex (Qk Qt) Q7 Wj
attribute [local irreducible] vc
section
variable {T:Nat}{p:PV}
end
def Kt (n:Nat)(lv:Int)(v:Val):Prop:=∀ q∈bF n lv v,Jt q.2/\q.1<=8
theorem HC {n:Nat}{lv:Int}{v:Val}(h:lz 0 (bF n lv v)=0):Kt n lv v:=by
 intro q hq
 obtain⟨j,hj⟩:=List.getElem?_of_mem hq
 have hs:=qk _ 0 h j q hj
 refine⟨(lP hs).2,?_⟩
 by_cases c1:4096<=0+j
 ·rw[tx c1] at hs;omega
 by_cases c2:8<q.1
 ·rw[tw c1 c2] at hs;omega
 ·omega
theorem yS {n lv:Nat}{v x:Val}(h:Kt (n+1) lv v)(hl:lv<=8)(hx:x∈bu v):Kt n ((lv+1:Nat):Int) x:=fun q hq=>by
 refine h q ?_
 rw[bF]
 refine Xj _ (List.mem_flatMap.2 ⟨x,hx,?_⟩)
 have hw:wrap64 ((lv:Int)+1)=((lv+1:Nat):Int):=by
  unfold wrap64
  omega
 rw[hw];exact hq
theorem wj (s:List UInt8):∀ (n lv:Nat) (v:Val),ia n v->Kt n (lv:Int) v->1<=lv->∃ f,9 - lv=f+1/\bJ s (f+1) (lv - 1) v (aF n v)
 | 0,_,_,h,_,_=>h.elim
 | n+1,lv,v,hd,hs,h1=>by
   obtain⟨hg,hlv⟩:=hs ((lv:Int),v) (by rw[bF];exact List.mem_cons_self)
   have hlv8:lv<=8:=by simp only at hlv;omega
   obtain⟨f,hf⟩:∃ f,9 - lv=f+1:=⟨8 - lv,by omega⟩
   refine⟨f,hf,?_⟩
   have ih:∀ x∈bu v,bJ s f (lv - 1+1) x (aF n x):=by
    intro x hx
    obtain⟨f',e1,e2⟩:=wj s n (lv+1) x (hd x hx) (yS hs hlv8 hx) (by omega)
    rw[show f=f'+1 by omega,show lv - 1+1=lv+1 - 1 by omega]
    exact e2
   obtain⟨k,m,sc,t,l,fs⟩:=v
   obtain⟨g1,g2,g3,g4⟩:=hg
   simp only[Val.kind] at g1 g2
   simp only[eA,WT,Bool.or_eq_true,decide_eq_true_eq] at g3
   obtain⟨u1,u2,u3,u4,u5⟩:=g3
   have hk:k=1\/k=2\/k=3\/k=4\/k=5\/k=6\/k=7\/k=8\/k=9\/k=10:=by omega
   have ul:¬ (k=8\/k=10)->l=[]:=fun h=>WY (u4.resolve_left h)
   have uf:¬ k=9->fs=[]:=fun h=>WY (u5.resolve_left h)
   have ut:¬ (k=4\/k=5\/k=10)->t=[]:=fun h=>u3.resolve_left h
   have us:¬ k=3->sc=0:=fun h=>u2.resolve_left h
   have um:¬ (k=1\/k=2\/k=6\/k=7\/k=3)->m=0:=fun h=>u1.resolve_left h
   rcases hk with rfl | rfl | rfl | rfl | rfl | rfl | rfl | rfl | rfl | rfl
   ·obtain rfl:=ul (by omega)
    obtain rfl:=uf (by omega)
    obtain rfl:=ut (by omega)
    obtain rfl:=us (by omega)
    have hm:=PQ (n:=m) (a:=0) (b:=1) g4
    have:m=0\/m=1:=by omega
    rcases this with rfl | rfl
    ·exact yX
    ·exact CH
   ·obtain rfl:=ul (by omega)
    obtain rfl:=uf (by omega)
    obtain rfl:=ut (by omega)
    obtain rfl:=us (by omega)
    have hm:=Cr g4
    exact HT ⟨hm.1,hm.2,by omega⟩
   ·obtain rfl:=ul (by omega)
    obtain rfl:=uf (by omega)
    obtain rfl:=ut (by omega)
    obtain⟨hi,h0⟩:=nW g4
    obtain⟨c,rfl⟩:∃ c:Nat,sc=c:=⟨sc.toNat,by omega⟩
    rw[Int.toNat_natCast] at hi
    have:=HV (s:=s) (f:=f) (d:=lv - 1) hi
    rw[show aF (n+1) (.mk 3 m c [] [] [])=cl m c++(if c=0 then [100] else []) by
     show cl m (c:Int).toNat++(if (c:Int)=0 then [100] else [])=_
     rw[Int.toNat_natCast]
     congr 1
     by_cases h:c=0
     ·rw[if_pos h,if_pos (by omega)]
     ·rw[if_neg h,if_neg (by omega)]]
    exact this
   ·obtain rfl:=ul (by omega)
    obtain rfl:=uf (by omega)
    obtain rfl:=us (by omega)
    obtain rfl:=um (by omega)
    refine HR ?_
    rw[show bv (.mk 4 0 0 t [] [])=(if fb t.length 1024 5=0 then (if Lib.validD t=true then 0 else 16) else fb t.length 1024 5) from rfl] at g4
    split at g4
    ·split at g4
     ·assumption
     ·omega
    ·exact absurd g4 ‹_›
   ·obtain rfl:=ul (by omega)
    obtain rfl:=uf (by omega)
    obtain rfl:=us (by omega)
    obtain rfl:=um (by omega)
    exact HU
   ·obtain rfl:=ul (by omega)
    obtain rfl:=uf (by omega)
    obtain rfl:=ut (by omega)
    obtain rfl:=us (by omega)
    have hr:=wc g4
    have hq:=m8 hr
    exact mb (w:=[100,97,116,101]) (ps:=bU) rfl (by decide) (by decide) hq.1 hq.2 fun R t h0 hi ht=>by
     rw[mA h0 hi,if_neg (by rw[ht];decide),if_neg (by rw[ht];decide),if_pos ht]
   ·obtain rfl:=ul (by omega)
    obtain rfl:=uf (by omega)
    obtain rfl:=ut (by omega)
    obtain rfl:=us (by omega)
    have hr:=wb g4
    have hq:=jI hr
    exact mb (w:=[116,105,109,101]) (ps:=bG) rfl (by decide) (by decide) hq.1 hq.2 fun R t h0 hi ht=>by
     rw[mA h0 hi,if_neg (by rw[ht];decide),if_neg (by rw[ht];decide),if_neg (by rw[ht];decide),if_pos ht]
   ·obtain rfl:=uf (by omega)
    obtain rfl:=ut (by omega)
    obtain rfl:=us (by omega)
    obtain rfl:=um (by omega)
    exact CI (g:=aF n) ih
   ·obtain rfl:=ul (by omega)
    obtain rfl:=ut (by omega)
    obtain rfl:=us (by omega)
    obtain rfl:=um (by omega)
    rw[show bv (.mk 9 0 0 [] [] fs)=(if fb fs.length 64 9=0 then eq none (fs.map Fld.name) else fb fs.length 64 9) from rfl] at g4
    split at g4
    ·refine HS (g:=aF n) (fun x hx=>ih x.value ?_) (L0 _ _ g4)
     exact Xo.2 ⟨x,hx,rfl⟩
    ·exact absurd g4 ‹_›
   ·obtain rfl:=uf (by omega)
    obtain rfl:=us (by omega)
    obtain rfl:=um (by omega)
    have hr:=ph g4
    obtain⟨x,rfl⟩:=hr.2
    have ht:bz t=true:=by
     cases hb:bz t with
     | true=>rfl
     | false=>
       rw[show bv (.mk 10 0 0 t [x] [])=(if bz t=false then 12 else if [x].length=0 then 4 else fb [x].length 1 3) from rfl,if_pos hb] at g4
       omega
    exact HQ ht (ih x (by simp[bu,Val.kind,Val.lst]))
def dW (g:Val->Int):Int->List Val->Int
 | a,[]=>a
 | a,x::r=>dW g (max a (g x)) r
theorem uX (g:Val->Int)(x:Val):∀ (l:List Val) (a:Int),dW g a (l++[x])=max (dW g a l) (g x)
 | [],a=>rfl
 | y::r,a=>by rw[WQ,dW,uX g x r];rfl
def gH:Nat->Val->Int
 | 0,_=>0
 | n+1,v=>IntKind.i64.wrap (dW (gH n) (dW (gH n) 0 v.lst) (v.fields.map Fld.value)+1)
theorem Ln {v:Val}(hv:v.ok):∀ x∈v.lst,x.ok:=by
 obtain⟨k,m,s,t,l,fs⟩:=v
 rw[WC] at hv
 exact hv.2.2.2.2.2.1
theorem Lz {v:Val}(hv:v.ok):∀ x∈v.fields,x.value.ok:=by
 obtain⟨k,m,s,t,l,fs⟩:=v
 rw[WC] at hv
 intro x hx
 have:=hv.2.2.2.2.2.2.2 x hx
 obtain⟨nm,y⟩:=x
 rw[Wp] at this
 exact this.2
theorem uV:∀ (n:Nat) (v:Val),sN n v->v.ok->am Tryz.prog aC 34 [v.pv] (.int .i64 (gH n v))
 | 0,_,h,_=>h.elim
 | n+1,v,h,hv=>by
   have ih1:∀ x∈v.lst,am Tryz.prog aC 34 [x.pv] (.int .i64 (gH n x)):=fun x hx=>uV n x (h.1 x hx) (Ln hv x hx)
   have ih2:∀ x∈v.fields,am Tryz.prog aC 34 [x.value.pv] (.int .i64 (gH n x.value)):=fun x hx=>uV n x.value (h.2 x hx) (Lz hv x hx)
   obtain⟨k,m,s,t,l,fs⟩:=v
   rw[gH]
   simp only[Val.lst,Val.fields] at ih1 ih2 ⊢
   rw[WC] at hv
   have hl1:l.length*88<=140737488351232:=hv.2.2.2.2.1
   have hl2:fs.length*104<=140737488351232:=hv.2.2.2.2.2.2.1
   clear hv h
   generalize gH n=g at *
   refine am.intro Q34.2 (by simp[Q34]) ?_
   simp(disch:=try exact dI) only[Q34,WD,push_cast,seval]
   refine aG ([]) (fun i:Nat=>[(3,.pv (.int .i64 (dW g 0 (l.take i)))),(4,.pv (.int .i64 (i:Int)))]) (fun _=>[]) (fun i=>i<=l.length) (fun i=>l.length - i) (0) ?_;intro e0 σ0 n0 h0;simp(disch:=try exact dI) only[push_cast,seval] at h0;obtain⟨rfl,rfl,rfl⟩:=h0;refine⟨?_,?_,?_⟩
   ·refine zgZ ?_
    exact .refl _
   ·omega
   ·rintro i hi
    by_cases hlt:i<l.length
    ·have hltI:(i:Int)<(l.length:Int):=by omega
     obtain⟨x,hx⟩:∃ x,l[i]? = some x:=⟨_,WE hlt⟩
     have hx':(l.map Val.pv)[i]? = some x.pv:=by simp[hx]
     have hc:=ih1 x (WK hx)
     have hts:dW g 0 (l.take (i+1))=max (dW g 0 (l.take i)) (g x):=by rw[aK hx,uX]
     generalize g x=X at *
     obtain⟨xk,xn,xs,xt,xl,xf⟩:=x
     simp only[WD] at hx' hc
     simp(disch:=try exact dI) only[hltI,hx',push_cast,seval]
     refine ae.pure hc rfl ?_
     refine zgZ ?_
     exact⟨i+1,bl (by simp(disch:=try exact dI) only[hts,push_cast,seval]),by omega,by omega⟩
    ·have hltI:¬ (i:Int)<(l.length:Int):=by omega
     obtain rfl:i=l.length:=by omega
     rw[WV]
     generalize dW g 0 l=D at *
     simp(disch:=try exact dI) only[hltI,push_cast,seval]
     refine aG ([]) (fun i:Nat=>[(3,.pv (.int .i64 (dW g D ((fs.take i).map Fld.value)))),(5,.pv (.int .i64 (i:Int)))]) (fun _=>[]) (fun i=>i<=fs.length) (fun i=>fs.length - i) (0) ?_;intro e0 σ0 n0 h0;simp(disch:=try exact dI) only[push_cast,seval] at h0;obtain⟨rfl,rfl,rfl⟩:=h0;refine⟨?_,?_,?_⟩
     ·refine zgZ ?_
      exact .refl _
     ·omega
     ·rintro i hi
      by_cases hlt:i<fs.length
      ·have hltI:(i:Int)<(fs.length:Int):=by omega
       obtain⟨x,hx⟩:∃ x,fs[i]? = some x:=⟨_,WE hlt⟩
       have hx':(fs.map Fld.pv)[i]? = some x.pv:=by simp[hx]
       have hc:=ih2 x (WK hx)
       have hts:dW g D ((fs.take (i+1)).map Fld.value)=max (dW g D ((fs.take i).map Fld.value)) (g x.value):=by rw[aK hx,List.map_append,WP,Xp,uX]
       generalize g x.value=X at *
       obtain⟨nm,x⟩:=x
       simp only[Fld.value] at hc
       obtain⟨xk,xn,xs,xt,xl,xf⟩:=x
       simp only[Wq,WD] at hx' hc
       simp(disch:=try exact dI) only[hltI,hx',push_cast,seval]
       refine ae.pure hc rfl ?_
       refine zgZ ?_
       exact⟨i+1,bl (by simp(disch:=try exact dI) only[hts,push_cast,seval]),by omega,by omega⟩
      ·have hltI:¬ (i:Int)<(fs.length:Int):=by omega
       obtain rfl:i=fs.length:=by omega
       rw[WV]
       simp(disch:=try exact dI) only[hltI,push_cast,seval]
