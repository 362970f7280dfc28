/- A part of the proof for LiteralFieldsCardSaid. -/
import Derived.Test.YtamoeblcphjbaaaGreatDoorFlLK13
set_option maxRecDepth 100000
set_option linter.unusedVariables false
set_option linter.unusedSimpArgs false
-- many steps
namespace Go.Proofs.YtamoeblcphjbaaaGreatDoor
open Go Go.Ab Go.RowKit
attribute [local irreducible] vc
def sW (g:Val→Int):Int→List Val→Int
 | a,[]=>a
 | a,x::r=>sW g (IntKind.i64.wrap (a+g x)) r
theorem qG (g:Val→Int)(x:Val):∀ (l:List Val) (a:Int),sW g a (l++[x])=IntKind.i64.wrap (sW g a l+g x)
 | [],a=>rfl
 | y::r,a=>by rw[List.cons_append,sW,qG g x r];rfl
def mM:Nat→Val→Int
 | 0,_=>0
 | n+1,v=>sW (mM n) (sW (mM n) 1 v.lst) (v.fields.map Fld.value)
set_option maxHeartbeats 4000000 in
theorem yR:∀ (n:Nat) (v:Val),ll n v→v.ok→aq Tryz.prog aF 35 [v.pv] (.int .i64 (mM n v))
 | 0,_,h,_=>h.elim
 | n+1,v,h,hv=>by
   have ih1:∀ x∈v.lst,aq Tryz.prog aF 35 [x.pv] (.int .i64 (mM n x)):=fun x hx=>yR n x (h.1 x hx) (HO hv x hx)
   have ih2:∀ x∈v.fields,aq Tryz.prog aF 35 [x.value.pv] (.int .i64 (mM n x.value)):=fun x hx=>yR n x.value (h.2 x hx) (HW hv x hx)
   obtain⟨k,m,s,t,l,fs⟩:=v
   rw[mM]
   simp only[Val.lst,Val.fields] at ih1 ih2 ⊢
   rw[Val.ok_mk] at hv
   have hl1:l.length*88≤140737488351232:=hv.2.2.2.2.1
   have hl2:fs.length*104≤140737488351232:=hv.2.2.2.2.2.2.1
   clear hv h
   generalize mM n=g at *
   refine aq.intro Pt (by simp[F35]) ?_
   simp(disch:=try exact dI) only[F35,Val.pv_mk,push_cast,seval]
   refine aN ([]) (fun i:Nat=>[(3,.pv (.int .i64 (sW g 1 (l.take i)))),(4,.pv (.int .i64 (i:Int)))]) (fun _=>[]) (fun i=>i≤l.length) (fun i=>l.length - i) (0) ?_;intro e0 σ0 n0 h0;simp(disch:=try exact dI) only[push_cast,seval] at h0;obtain⟨rfl,rfl,rfl⟩:=h0;refine⟨?_,?_,?_⟩
   ·simp(disch:=try exact dI) only[push_cast,seval]
    try exact .refl _
   ·omega
   ·rintro i hi
    by_cases hlt:i<l.length
    ·have hltI:(i:Int)<(l.length:Int):=by omega
     obtain⟨x,hx⟩:∃ x,l[i]? = some x:=⟨_,List.getElem?_eq_getElem hlt⟩
     have hx':(l.map Val.pv)[i]? = some x.pv:=by simp[hx]
     have hc:=ih1 x (List.mem_of_getElem? hx)
     have hts:sW g 1 (l.take (i+1))=IntKind.i64.wrap (sW g 1 (l.take i)+g x):=by rw[aP hx,qG]
     generalize g x=X at *
     obtain⟨xk,xn,xs,xt,xl,xf⟩:=x
     simp only[Val.pv_mk] at hx' hc
     simp(disch:=try exact dI) only[hltI,hx',push_cast,seval]
     refine ab.pure hc rfl ?_
     simp(disch:=try exact dI) only[push_cast,seval]
     exact⟨i+1,bz (by simp(disch:=try exact dI) only[hts,push_cast,seval]),by omega,by omega⟩
    ·have hltI:¬ (i:Int)<(l.length:Int):=by omega
     obtain rfl:i=l.length:=by omega
     rw[List.take_length]
     generalize sW g 1 l=D at *
     simp(disch:=try exact dI) only[hltI,push_cast,seval]
     refine aN ([]) (fun i:Nat=>[(3,.pv (.int .i64 (sW g D ((fs.take i).map Fld.value)))),(5,.pv (.int .i64 (i:Int)))]) (fun _=>[]) (fun i=>i≤fs.length) (fun i=>fs.length - i) (0) ?_;intro e0 σ0 n0 h0;simp(disch:=try exact dI) only[push_cast,seval] at h0;obtain⟨rfl,rfl,rfl⟩:=h0;refine⟨?_,?_,?_⟩
     ·simp(disch:=try exact dI) only[push_cast,seval]
      try exact .refl _
     ·omega
     ·rintro i hi
      by_cases hlt:i<fs.length
      ·have hltI:(i:Int)<(fs.length:Int):=by omega
       obtain⟨x,hx⟩:∃ x,fs[i]? = some x:=⟨_,List.getElem?_eq_getElem hlt⟩
       have hx':(fs.map Fld.pv)[i]? = some x.pv:=by simp[hx]
       have hc:=ih2 x (List.mem_of_getElem? hx)
       have hts:sW g D ((fs.take (i+1)).map Fld.value)=IntKind.i64.wrap (sW g D ((fs.take i).map Fld.value)+g x.value):=by rw[aP hx,List.map_append,List.map_cons,List.map_nil,qG]
       generalize g x.value=X at *
       obtain⟨nm,x⟩:=x
       simp only[Fld.value] at hc
       obtain⟨xk,xn,xs,xt,xl,xf⟩:=x
       simp only[Fld.pv_mk,Val.pv_mk] at hx' hc
       simp(disch:=try exact dI) only[hltI,hx',push_cast,seval]
       refine ab.pure hc rfl ?_
       simp(disch:=try exact dI) only[push_cast,seval]
       exact⟨i+1,bz (by simp(disch:=try exact dI) only[hts,push_cast,seval]),by omega,by omega⟩
      ·have hltI:¬ (i:Int)<(fs.length:Int):=by omega
       obtain rfl:i=fs.length:=by omega
       rw[List.take_length]
       simp(disch:=try exact dI) only[hltI,push_cast,seval]
end Go.Proofs.YtamoeblcphjbaaaGreatDoor
-- many steps
namespace Go.Proofs.YtamoeblcphjbaaaGreatDoor
open Go Go.Ab Go.RowKit
attribute [local irreducible] vc
def yP (n:Nat)(v:Val):Bool:=decide (gP n v≤12)&&decide (mM n v≤400)
theorem IM (n:Nat)(v:Val)(h:ll n v)(hv:v.ok):aq Tryz.prog aF 13 [v.pv] (.bool (yP n v)):=by
 have h34:=rW n v h hv
 have h35:=yR n v h hv
 unfold yP
 generalize gP n v=D at *
 generalize mM n v=S at *
 obtain⟨k,m,s,t,l,fs⟩:=v
 simp only[Val.pv_mk] at h34 h35 ⊢
 refine aq.intro PR (by simp[F13]) ?_
 by_cases hD:D≤12
 ·by_cases hS:S≤400
  ·rw[decide_eq_true hD,decide_eq_true hS]
   simp(disch:=try exact dI) only[F13,push_cast,seval]
   refine ab.pure h34 rfl ?_
   simp(disch:=try exact dI) only[hD,push_cast,seval]
   refine ab.pure h35 rfl ?_
   simp(disch:=try exact dI) only[hS,push_cast,seval]
  ·rw[decide_eq_true hD,decide_eq_false hS]
   simp(disch:=try exact dI) only[F13,push_cast,seval]
   refine ab.pure h34 rfl ?_
   simp(disch:=try exact dI) only[hD,push_cast,seval]
   refine ab.pure h35 rfl ?_
   simp(disch:=try exact dI) only[hS,push_cast,seval]
 ·rw[decide_eq_false hD,Bool.false_and]
  simp(disch:=try exact dI) only[F13,push_cast,seval]
  refine ab.pure h34 rfl ?_
  simp(disch:=try exact dI) only[hD,push_cast,seval]
end Go.Proofs.YtamoeblcphjbaaaGreatDoor
-- many steps
namespace Go.Proofs.YtamoeblcphjbaaaGreatDoor
open Go Go.Ab Go.RowKit
attribute [local irreducible] vc
noncomputable def lvl (v:Val):Nat:=(iM v).choose
theorem rI (v:Val):ll (lvl v) v:=(iM v).choose_spec
noncomputable def txt (v:Val):List UInt8:=au (lvl v) v
theorem A3 (v:Val):∃ f,lvl v=f+1:=by
 have:=rI v
 cases h:lvl v with
 | zero=>rw[h] at this;exact this.elim
 | succ f=>exact⟨f,rfl⟩
theorem Cx (v:Val):DA v=jE 0 (bg (lvl v) 1 v):=rfl
theorem JL {v:Val}(hc:DA v=0):bW v=false:=by
 obtain⟨f,hf⟩:=A3 v
 have hc':=Cx v
 rw[hf,hc] at hc'
 have hs:=mK hc'.symm (1,v) (by rw[bg];exact List.mem_cons_self)
 cases hn:bW v with
 | false=>rfl
 | true=>
   have:=kq hn
   have:=hs.1.1
   simp only at this
   omega
section
variable {T:Nat}{p:PV}
end
end Go.Proofs.YtamoeblcphjbaaaGreatDoor
namespace Go.Proofs.YtamoeblcphjbaaaGreatDoor
open Go Go.Ab Go.RowKit
def iW (g:Val→List UInt8)(x:Fld):List UInt8:=x.name++[58]++g x.value
theorem n8 {r:List UInt8}{c:UInt8}{α:Type}(g:α→List UInt8)(L:List α)(hc:c=93∨c=125):jT ((L.flatMap fun y=>[44]++g y)++c::r):=by
 intro b hb
 cases L with
 | nil=>
   simp only[List.flatMap_nil,List.nil_append,List.head?_cons,Option.some.injEq] at hb
   subst hb
   rcases hc with h | h
   ·exact .inr (.inl h)
   ·exact .inr (.inr (.inl h))
 | cons x L=>
   simp only[List.flatMap_cons,List.cons_append,List.head?_cons,Option.some.injEq] at hb
   exact .inl hb.symm
theorem lS {s:List UInt8}{f d:Nat}{b:Bool}{R:Rd}{w X r:List UInt8}{v:Val}{j:Nat}{seen:List (List UInt8)}(hR:(if b=true then R else aD R [44])=A s j)(h:s.drop j=w++[58]++X++r)(hw:bn w=true)(hX:bf s f d v X)(hr:jT r)(hse:w∉seen) :
  (mS b R).1=w∧aI srt f d (aD (fw seen b R) [58])=(v,A s (j+(w++[58]++X).length)):=by
 have h1:s.drop j=w++58::(X++r):=by rw[h];simp
 have hA:=kw h1 hw (.inl rfl)
 have h2:=bh h1
 obtain⟨e1,e2,e3⟩:=bD (c:=58) h2 (by decide)
 obtain⟨_,e5⟩:=bR h2
 have hn:mS b R=(w,A s (j+w.length)):=by
  unfold mS dB
  rw[hR,hA,lK rfl rfl]
  simp only
  rw[dy,if_neg (by rw[hw];simp)]
 have hD:fw seen b R=A s (j+w.length):=by
  unfold fw
  rw[hn]
  exact if_neg (fun q=>hse q.2)
 refine⟨by rw[hn],?_⟩
 rw[hD,e1,(hX _ _ e5 hr).1]
 rw[show j+w.length+1+X.length=j+(w++[58]++X).length by simp;omega]
theorem ow {s:List UInt8}{f d:Nat}{g:Val→List UInt8}:∀ (L acc:List Fld) (seen:List (List UInt8)) (j k:Nat) (r:List UInt8),(∀ x∈L,bf s f d x.value (g x.value)∧bn x.name=true∧x.name∉seen)→(L.map Fld.name).Nodup→L.length<k →
  s.drop j=(L.flatMap fun x=>[44]++iW g x)++125::r→iS (aI srt f d) k false seen acc (A s j)=(acc++L,A s (j+(L.flatMap fun x=>[44]++iW g x).length))
 | [],acc,seen,j,k,r,_,_,_,h=>by
   have hi:=l9 (c:=125) h (by decide)
   rw[j5 (fun q=>by rw[hi] at q;cases q.2)]
   simp
 | x::L,acc,seen,j,k,r,hr,hnd,hk,h=>by
   obtain⟨k,rfl⟩:∃ m,k=m+1:=⟨k - 1,by omega⟩
   have h':s.drop j=44::(iW g x++((L.flatMap fun x=>[44]++iW g x)++125::r)):=by rw[h];simp
   obtain⟨e1,e2,e3⟩:=bD (c:=44) h' (by decide)
   obtain⟨_,e5⟩:=bR h'
   obtain⟨x1,x2,x3⟩:=hr x (by simp)
   obtain⟨v1,v2⟩:=lS (R:=A s j) (b:=false) (j:=j+1) (w:=x.name) (X:=g x.value) (by rw[if_neg (by decide),e1]) (by rw[e5];rfl) x2 x1 (n8 (iW g) L (.inr rfl)) x3
   rw[List.map_cons,List.nodup_cons] at hnd
   rw[ii ⟨e2,e3 _ (by decide)⟩,v2,v1]
   simp only
   have hx:Fld.mk x.name x.value=x:=by cases x;rfl
   have hse:∀ y∈L,y.name∉pZ seen x.name:=by
    intro y hy hm
    have hy3:=(hr y (List.mem_cons_of_mem _ hy)).2.2
    unfold pZ at hm
    rw[if_neg x3] at hm
    rcases List.mem_append.1 hm with hm | hm
    ·exact hy3 hm
    ·exact hnd.1 (List.mem_map.2 ⟨y,hy,List.mem_singleton.1 hm⟩)
   have hfx:x.name++[58]++g x.value=iW g x:=rfl
   rw[hx,hfx,ow L (acc++[x]) _ _ k r (fun y hy=>⟨(hr y (List.mem_cons_of_mem _ hy)).1,(hr y (List.mem_cons_of_mem _ hy)).2.1,hse y hy⟩) hnd.2 (by simp only[List.length_cons] at hk;omega) (bh e5)]
   rw[List.append_assoc,List.singleton_append,List.flatMap_cons,List.length_append,List.length_append]
   simp only[List.length_cons,List.length_nil]
   rw[show j+1+(iW g x).length+(L.flatMap fun x=>[44]++iW g x).length=j+(0+1+(iW g x).length+(L.flatMap fun x=>[44]++iW g x).length) by omega]
theorem uo {α:Type}(g:α→List UInt8)(L:List α):L.length≤(L.flatMap fun x=>[44]++g x).length:=by
 induction L with
 | nil=>simp
 | cons x L ih=>rw[List.flatMap_cons,List.length_append,List.length_append,List.length_cons];simp only[List.length_cons,List.length_nil];omega
def eV (g:Val→List UInt8)(l:List Fld):List UInt8:=l.flatMap fun x=>[44]++iW g x
theorem zG {s:List UInt8}{f d:Nat}{g:Val→List UInt8}{l:List Fld}(hl:∀ x∈l,bf s f (d+1) x.value (g x.value))(hnm:∀ x∈l,bn x.name=true)(hnd:(l.map Fld.name).Nodup)(h0l:l≠[]) :
  bf s (f+1) d (.mk 9 0 0 [] [] (srt l)) ([123]++(eV g l).drop 1++[125]):=by
 intro i r hs hr
 obtain⟨x,L,rfl⟩:∃ x L,l=x::L:=by
  cases l with
  | nil=>exact absurd rfl h0l
  | cons x L=>exact⟨x,L,rfl⟩
 have hfl:(eV g (x::L)).drop 1=iW g x++L.flatMap fun y=>[44]++iW g y:=by simp[eV]
 rw[hfl] at hs ⊢
 have h0:s.drop i=123::((iW g x++L.flatMap fun y=>[44]++iW g y)++125::r):=by rw[hs];simp
 have hA:=sB h0 (by decide)
 obtain⟨_,h1⟩:=bR h0
 have h1c:=h1
 rw[hA]
 refine⟨?_,rfl,ca (by simp)⟩
 rw[cf rfl (.inr (.inr (.inr (.inr (.inr rfl)))))]
 unfold bj
 rw[if_neg (by simp),if_neg (by simp),if_neg (by simp),if_neg (by simp),if_neg (by simp),if_pos rfl,dy]
 have key:iS (aI srt f (d+1)) (s.length+2) true [] [] (A s (i+1))=(x::L,A s (i+1+(iW g x++L.flatMap fun y=>[44]++iW g y).length)):=by
  rw[List.append_assoc] at h1
  have x2:bn x.name=true:=hnm _ (by simp)
  have h1':s.drop (i+1)=x.name++58::(g x.value++((L.flatMap fun y=>[44]++iW g y)++125::r)):=by rw[h1];simp[iW]
  have hAn:=kw h1' x2 (.inl rfl)
  obtain⟨v1,v2⟩:=lS (R:=A s (i+1)) (b:=true) (j:=i+1) (w:=x.name) (X:=g x.value) (seen:=[]) (if_pos rfl) (by rw[h1];rfl) x2 (hl x (by simp)) (n8 (iW g) L (.inr rfl)) (by simp)
  have hlen:L.length<s.length+1:=by
   have q:=congrArg List.length h1
   have q2:=uo (iW g) L
   rw[List.length_drop,List.length_append,List.length_append] at q
   omega
  have he:(A s (i+1)).e=0∧isT (A s (i+1)) [125]=false:=by
   rw[hAn]
   obtain⟨b,w',e,hb,_⟩:=gB x2
   refine⟨rfl,ca ?_⟩
   simp only
   rw[e]
   intro q
   have:=(List.cons.inj q).1
   subst this
   exact absurd hb (by decide)
  rw[List.map_cons,List.nodup_cons] at hnd
  have hx:Fld.mk x.name x.value=x:=by cases x;rfl
  rw[ii he,v2,v1]
  simp only
  have hfx:x.name++[58]++g x.value=iW g x:=rfl
  rw[hx,hfx,ow L ([]++[x]) _ _ (s.length+1) r (fun y hy=>⟨hl y (List.mem_cons_of_mem _ hy),hnm _ (List.mem_cons_of_mem _ hy),fun hm=>by
   simp only[pZ,List.not_mem_nil,if_false,List.nil_append,List.mem_singleton] at hm
   exact hnd.1 (List.mem_map.2 ⟨y,hy,hm⟩)⟩) hnd.2 hlen (bh h1),List.length_append]
  simp only[List.nil_append,List.singleton_append]
  rw[Nat.add_assoc (i+1)]
 simp only
 rw[key]
 simp only
 have h2:=bh h1c
 rw[(bD (c:=125) h2 (by decide)).1]
 generalize (iW g x++L.flatMap fun y=>[44]++iW g y)=Y
 rw[show i+1+Y.length+1=i+([123]++Y++[125]).length by simp;omega]
theorem qE {l fs:List Fld}(h:CX none (fs.map Fld.name))(hp0:l.Perm fs):srt l=fs:=by
 have hp:=uH _ _ h
 have hp2:fs.Pairwise fun a b=>Lib.compareBytes a.name b.name<0:=by
  rw[List.pairwise_map] at hp;exact hp
 have hs:(srt l).Pairwise fun a b=>¬ Lib.compareBytes b.name a.name<0:=by
  rw[List.pairwise_iff_getElem]
  intro i j hi hj hij
  exact lN l i j _ _ hij (List.getElem?_eq_getElem hi) (List.getElem?_eq_getElem hj)
 have hpp:=(jo l).trans hp0
 refine List.Perm.eq_of_pairwise (le:=fun a b=>¬ Lib.compareBytes b.name a.name<0) ?_ hs (hp2.imp fun {a b} hab hba=>?_) hpp
 ·intro a b ha hb h1 h2
  have hb':=hb
  have ha':=hpp.mem_iff.1 ha
  obtain⟨i,hi,rfl⟩:=List.getElem_of_mem ha'
  obtain⟨j,hj,rfl⟩:=List.getElem_of_mem hb'
  have hpw:=List.pairwise_iff_getElem.1 hp2
  rcases Nat.lt_trichotomy i j with h | h | h
  ·exact absurd (hpw i j hi hj h) h2
  ·subst h;rfl
  ·exact absurd (hpw j i hj hi h) h1
 ·have:=gT _ _ _ hab hba
  rw[lf] at this
  exact absurd this (by decide)
end Go.Proofs.YtamoeblcphjbaaaGreatDoor
namespace Go.Proofs.YtamoeblcphjbaaaGreatDoor
open Go Go.Ab Go.RowKit
theorem mr:∀ (L:List (Int×Val)) (i:Nat),(∀ q∈L,BG q.2∧q.1≤8)→i+L.length≤4096→jE i L=0
 | [],_,_,_=>rfl
 | p::r,i,h,hl=>by
   obtain⟨⟨g1,g2,g3,g4⟩,hlv⟩:=h p (by simp)
   rw[List.length_cons] at hl
   have hn:bW p.2=false:=by
    cases hn:bW p.2 with
    | false=>rfl
    | true=>have:=kq hn;omega
   have hs:bI i p=0:=by
    rw[qC (by omega) (by omega) hn (by omega) g3];exact g4
   rw[jE,if_pos hs]
   exact mr r (i+1) (fun q hq=>h q (List.mem_cons_of_mem _ hq)) (by omega)
theorem lO:∀ (n lv:Nat) (x:Val),p8 n ((lv+1:Nat):Int) x→p8 n (lv:Int) x
 | 0,_,_,_=>fun q hq=>by cases hq
 | n+1,lv,x,h=>by
   have h0:=h (((lv+1:Nat):Int),x) (by rw[bg];exact List.mem_cons_self)
   have hlv:lv+1≤8:=by have:=h0.2;simp only at this;omega
   intro q hq
   rw[bg] at hq
   rcases List.mem_cons.1 hq with rfl | hq
   ·exact⟨h0.1,by simp only;omega⟩
   ·obtain⟨y,hy,hq⟩:=List.mem_flatMap.1 hq
    have hw:wrap64 ((lv:Int)+1)=((lv+1:Nat):Int):=by unfold wrap64;omega
    rw[hw] at hq
    exact lO n (lv+1) y (ft h hlv hy) q hq
theorem Am:∀ (n:Nat) (a b:Int) (x:Val),(bg n a x).length=(bg n b x).length
 | 0,_,_,_=>rfl
 | n+1,a,b,x=>by
   rw[bg,bg,List.length_cons,List.length_cons,List.length_flatMap,List.length_flatMap]
   congr 2
   exact List.map_congr_left fun y _=>Am n _ _ y
theorem Fo {n:Nat}{a:Int}{v x:Val}(hx:x∈aY v):(bg n 1 x).length≤(bg (n+1) a v).length:=by
 have hs:(bg n (wrap64 (a+1)) x).Sublist ((aY v).flatMap (bg n (wrap64 (a+1)))):=by
  rw[List.flatMap_def]
  exact List.sublist_flatten_of_mem (List.mem_map.2 ⟨x,hx,rfl⟩)
 rw[bg,List.length_cons,Am n 1 (wrap64 (a+1)) x]
 have:=hs.length_le
 omega
theorem GL {n:Nat}{v x:Val}(h:jE 0 (bg (n+1) 1 v)=0)(hx:x∈aY v):jE 0 (bg n 1 x)=0:=by
 have hs:=mK h
 have hl:=(BE h).2
 have hd:=lO n 1 x (ft (lv:=1) hs (by omega) hx)
 have:=Fo (n:=n) (a:=1) hx
 exact mr _ 0 hd (by omega)
theorem zz {n:Nat}{v:Val}(hs:p8 (n+1) 1 v)(hk:v.kind=9):∃ fs,v = .mk 9 0 0 [] [] fs∧CX none (fs.map Fld.name)∧fs.length≤64:=by
 obtain⟨hg,hlv⟩:=hs (1,v) (by rw[bg];exact List.mem_cons_self)
 obtain⟨k,m,sc,t,l,fs⟩:=v
 simp only[Val.kind] at hk
 subst hk
 obtain⟨g1,g2,g3,g4⟩:=hg
 simp only[aE,Bool.and_eq_true,Bool.or_eq_true,decide_eq_true_eq] at g3
 obtain⟨u1,u2,u3,u4,u5⟩:=g3
 obtain rfl:l=[]:=List.eq_nil_of_length_eq_zero (u4.resolve_left (by omega))
 obtain rfl:t=[]:=u3.resolve_left (by omega)
 obtain rfl:sc=0:=u2.resolve_left (by omega)
 obtain rfl:m=0:=u1.resolve_left (by omega)
 rw[show bi (.mk 9 0 0 [] [] fs)=(if ef fs.length 64 9=0 then dm none (fs.map Fld.name) else ef fs.length 64 9) from rfl] at g4
 split at g4
 ·rename_i hm
  refine⟨fs,rfl,CW _ _ g4,?_⟩
  unfold ef at hm
  split at hm
  ·omega
  ·omega
 ·exact absurd g4 ‹_›
theorem vT {n:Nat}{l fs:List Fld}(hd:gQ (n+1) (.mk 9 0 0 [] [] fs))(hc:DA (.mk 9 0 0 [] [] fs)=0)(hs:p8 (n+1) 1 (.mk 9 0 0 [] [] fs))(hn:CX none (fs.map Fld.name))(hp:l.Perm fs)(h0:l≠[])
  (hl:([123]++(eV (au n) l).drop 1++[125]).length≤65536):lT ([123]++(eV (au n) l).drop 1++[125])=(.mk 9 0 0 [] [] fs,0,0):=by
 generalize hX:[123]++(eV (au n) l).drop 1++[125]=X at *
 have hch:∀ x∈l,bf X 7 1 x.value (au n x.value):=by
  intro x hx
  have hx':x.value∈aY (.mk 9 0 0 [] [] fs):=by
   rw[db rfl]
   exact List.mem_map.2 ⟨x,hp.mem_iff.1 hx,rfl⟩
  obtain⟨f,e1,e2⟩:=tc X n 2 x.value (hd _ hx') (ft (lv:=1) hs (by omega) hx') (by omega)
  obtain rfl:f=6:=by omega
  exact e2
 have hnd:(l.map Fld.name).Nodup:=(hp.map Fld.name).nodup_iff.2 (pV hn)
 have hr:=zG (f:=7) (d:=0) hch (fun x hx=>gX _ _ hn _ (List.mem_map.2 ⟨x,hp.mem_iff.1 hx,rfl⟩)) hnd h0
 rw[hX] at hr
 obtain⟨h1,h2,h3⟩:=hr 0 [] (by simp) (fun c hc=>by cases hc)
 rw[Nat.zero_add,qE hn hp] at h1
 unfold lT
 rw[IG hl,h1]
 have hf:kQ (A X X.length)=⟨X,X.length,{ pos:=X.length },0,0⟩:=by rw[PY (Nat.le_refl _)];rfl
 simp only
 rw[hf]
 unfold Ri
 rw[if_pos rfl,if_neg (by rw[JL hc];decide),if_pos hc]
end Go.Proofs.YtamoeblcphjbaaaGreatDoor
