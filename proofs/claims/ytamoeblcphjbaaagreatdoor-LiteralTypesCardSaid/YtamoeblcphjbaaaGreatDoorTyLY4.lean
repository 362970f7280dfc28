/- A part. -/
import Derived.Test.YtamoeblcphjbaaaGreatDoorTyLSg
set_option linter.unusedVariables false
set_option linter.unusedSimpArgs false
set_option maxHeartbeats 16000000
set_option maxRecDepth 100000
open List renaming map_cons->WP,map_nil->Xp,mem_cons_of_mem->Xj,length_append->WF,length_cons->WG,length_nil->WL,mem_cons->W9
namespace Go.Proofs.YtamoeblcphjbaaaGreatDoor
open Go Go.Ab
theorem th {v:Val}(hc:xS v=0):(txt v).length<=32768000:=by
 have h:=EE ((u6 v).symm.trans hc)
 have:=iU (lvl v) 1 v (fJ _ v (iC v)) h.1
 have:=h.2
 unfold txt
 omega
theorem pK {α:Type}(sep:List UInt8)(g:α->List UInt8)(K:Nat):∀ l:List α,(∀ x∈l,(g x).length+sep.length<=K)->(aM sep (l.map g)).length<=K*l.length
 | [],_=>by simp[aM]
 | [x],hx=>by
   have:=hx x (by simp)
   simp only[WP,Xp,aM,List.length_singleton]
   omega
 | x::y::r,hx=>by
   have h1:=hx x (by simp)
   have h2:=pK sep g K (y::r) fun z hz=>hx z (Xj _ hz)
   simp only[WP,aM,WF,WG] at h2 ⊢
   have:K*(r.length+1+1)=K*(r.length+1)+K:=by rw[Nat.mul_add K (r.length+1) 1,Nat.mul_one]
   omega
theorem w8 {α:Type}(sep:List UInt8)(g:α->List UInt8):∀ l:List α,((aM sep (l.map g)).length:Int)<=(l.map fun x=>((g x).length:Int)+sep.length).sum
 | []=>by simp[aM]
 | [x]=>by
   simp only[WP,Xp,aM,List.sum_cons,List.sum_nil]
   omega
 | x::y::r=>by
   have h2:=w8 sep g (y::r)
   simp only[WP,aM,WF,List.sum_cons] at h2 ⊢
   omega
theorem du (x y:List UInt8):(ew x y).length=x.length+y.length+2:=by
 unfold ew
 simp only[WF,WG,WL]
 omega
theorem cU (k:Int):(aX k).length<=10:=by
 unfold aX
 cases h:uG[(k - 1).toNat]? with
 | none=>simp
 | some x=>
   have:∀ y∈uG,y.length<=10:=by decide
   exact this x (List.mem_of_getElem? h)
theorem ET {rec:Typ->List UInt8}{n:Int}{nm:List UInt8}{nd:Int}{t:Typ}{d:List Val}(hn:IsN n 0)(hnm:bz nm=true)(hd:nd=3->∃ v,d=[v]/\xS v=0) :
  (bx rec ⟨n,nm,nd,t,d⟩).length+2<=(rec t).length+33000000:=by
 rw[lm]
 have h1:(aN n).length<=1000:=by rw[gT hn];exact cw hn
 have h2:nm.length<=32:=by
  unfold bz at hnm
  simp only[Bool.and_eq_true,decide_eq_true_eq] at hnm
  exact hnm.2.1
 have h3:(if nd=3 then p7 d else []).length<=32768003:=by
  split
  ·obtain⟨v,rfl,hv⟩:=hd ‹_›
   have:=th hv
   simp only[p7,WF,WG,WL]
   omega
  ·simp
 have h4:(if nd=2 then ([63]:List UInt8) else []).length<=1:=by split<;>simp
 simp only[WF,WG]
 omega
theorem pI {rec:Int->Typ->Int×Int}{w:Typ->Int}(hr:∀ l x,0<=l->(rec l x).1=0->0<=(rec l x).2/\w x<=40000000*(l - (rec l x).2)):∀ (ts:List Typ) (l:Int),0<=l->(d6 rec l ts).1=0 ->
  0<=(d6 rec l ts).2/\(ts.map w).sum<=40000000*(l - (d6 rec l ts).2)
 | [],l,h0,_=>by
   rw[d6]
   simp only[Xp,List.sum_nil]
   omega
 | t::r,l,h0,h=>by
   rw[d6] at h ⊢
   split at h
   ·rename_i c
    rw[if_pos c]
    obtain⟨g1,g2⟩:=hr l t h0 c
    obtain⟨k1,k2⟩:=pI hr r _ g1 h
    rw[WP,List.sum_cons]
    omega
   ·exact absurd h ‹_›
theorem xA {N:Nat}{rec:Int->Typ->Int×Int}{w:TFd->Int}:∀ (ts:List TFd) (l:Int),(∀ l (g:TFd),g∈ts->0<=l->(rec l g.typ).1=0->¬ g9 N g=true->0<=(rec l g.typ).2/\w g<=40000000*(l - (rec l g.typ).2))->0<=l->(dB N rec l ts).1=0 ->
  0<=(dB N rec l ts).2/\(ts.map w).sum<=40000000*(l - (dB N rec l ts).2)
 | [],l,_,h0,_=>by
   rw[dB]
   simp only[Xp,List.sum_nil]
   omega
 | t::r,l,hr,h0,h=>by
   rw[dB] at h ⊢
   split at h
   ·rename_i c
    rw[if_pos c]
    split at h
    ·exact absurd h (by simp)
    rename_i c'
    rw[if_neg c']
    obtain⟨g1,g2⟩:=hr l t (by simp) h0 c c'
    obtain⟨k1,k2⟩:=xA r _ (fun l g hg=>hr l g (Xj _ hg)) g1 h
    rw[WP,List.sum_cons]
    omega
   ·exact absurd h ‹_›
theorem KU {α:Type}{a b:α->Int}:∀ l:List α,(∀ x∈l,a x<=b x)->(l.map a).sum<=(l.map b).sum
 | [],_=>by simp
 | x::r,h=>by
   have h1:=h x (by simp)
   have h2:=KU r fun y hy=>h y (Xj _ hy)
   rw[WP,WP,List.sum_cons,List.sum_cons]
   omega
theorem oV:∀ (l:List (List UInt8)) (p:Option (List UInt8)),fN p l=0->∀ x∈l,x.length<=1024
 | [],_,_,x,hx=>by cases hx
 | w::r,p,h,x,hx=>by
   rw[fN] at h
   split at h
   ·rename_i c
    split at h
    ·exact absurd h (by decide)
    split at h
    ·exact absurd h (by decide)
    rcases W9.1 hx with rfl | hx
    ·unfold kJ at c
     split at c
     ·rename_i q
      unfold fb at q
      split at q
      ·exact absurd q (by decide)
      ·omega
     ·exact absurd c ‹_›
    ·exact oV r (some w) h x hx
   ·exact absurd h ‹_›
theorem p9 {n:Nat}{l k m M s:Int}{w:List (List UInt8)}{e:List Typ}{f:List TFd}(h:(dr 0 (n+1) l (.mk k m M s w e f)).1=0):¬ l=0/\kN (.mk k m M s w e f)=0 /\
  dr 0 (n+1) l (.mk k m M s w e f)=(if k=9 then dB n (dr 0 n) (l - 1) f else d6 (dr 0 n) (l - 1) (ca (.mk k m M s w e f))):=by
 rw[dr] at h ⊢
 split at h
 ·exact absurd h (by simp)
 rename_i c
 split at h
 ·rename_i c'
  exact⟨c,c',by rw[if_neg c,if_pos c']⟩
 ·exact absurd h ‹_›
theorem Af {n:Nat}{l k m M s:Int}{w:List (List UInt8)}{e:List Typ}{f:List TFd}(h:(dr 0 (n+1) l (.mk k m M s w e f)).1=0)(hk:¬ 8<=k):dr 0 (n+1) l (.mk k m M s w e f)=(0,l - 1):=by
 rw[(p9 h).2.2,if_neg (by omega)]
 simp only[ca]
 rw[if_neg (by omega),if_neg (by omega)]
 rfl
theorem Fq (n:Int):(gV n).length<=10:=by
 unfold gV
 split
 ·rename_i h;exact (lx h.1 h.2).choose_spec.1.2.2
 ·simp
theorem vL (n:Int):(ct n).length<=24:=by
 unfold ct
 split
 ·rename_i h;exact (iT h.1 h.2).choose_spec.1.2.2
 ·simp
theorem cJ {n:Int}(h:IsN n 0):(aN n).length<=1000:=by rw[gT h];exact cw h
theorem cI (n:Nat){k m M s:Int}{w:List (List UInt8)}{e:List Typ}{f:List TFd}(h:¬ k=1):(aI (n+1) (.mk k m M s w e f)).length<=(Oi (aI n) (.mk k m M s w e f)).length+12:=by
 rw[bA _ h]
 have:=cU k
 simp only[WF,WG,WL]
 omega
theorem eM:∀ (n:Nat) (l:Int) (t:Typ),0<=l->(dr 0 n l t).1=0->0<=(dr 0 n l t).2/\((aI n t).length:Int)+34000000<=40000000*(l - (dr 0 n l t).2)
 | 0,l,t,_,h=>by
   rw[dr] at h
   split at h<;>exact absurd h (by simp)
 | n+1,l,.mk k m M s w e f,hl,h=>by
   have hT:=gW (n+1) l _ h
   obtain⟨c1,c2,c3⟩:=p9 h
   obtain⟨o1,o2,o3,o4,o5⟩:=NA c2
   have leaf:¬ 8<=k->(aI (n+1) (.mk k m M s w e f)).length<=5000000->0<=(dr 0 (n+1) l (.mk k m M s w e f)).2/\((aI (n+1) (.mk k m M s w e f)).length:Int)+34000000<=40000000*(l - (dr 0 (n+1) l (.mk k m M s w e f)).2):=fun q1 q2=>by
    rw[Af h q1]
    simp only
    omega
   unfold sR at hT
   rcases hT with ⟨hk,hT⟩ | ⟨hk,hm,hM,hs,hw,he,hf⟩ | ⟨hk,hs0,hs,hm,hM,hw,he,hf⟩ | ⟨hk,hm,hM,hs,hw,hv,he,hf⟩ | ⟨hk,hm,hM,hs,hw,he,hf⟩ | ⟨hk,hm,hM,hs,hw,he,hf⟩ | ⟨hk,hm,hM,hs,hw,⟨x,he,hx⟩,hf⟩ | ⟨hk,hm,hM,hs,hw,he,hf⟩
   ·refine leaf (by omega) ?_
    subst hk
    have:aI (n+1) (.mk 1 m M s w e f)=aX 1:=by rw[aI];exact if_pos rfl
    rw[this]
    have:=cU 1
    omega
   ·refine leaf (by omega) ?_
    have h1:=cI n (k:=k) (m:=m) (M:=M) (s:=s) (w:=w) (e:=e) (f:=f) (by omega)
    rw[bp,if_neg (by omega),if_neg (by omega),if_neg (by omega),if_neg (by omega),if_neg (by omega),if_neg (by rw[hw];simp),du] at h1
    have:=cJ hm;have:=cJ hM
    omega
   ·refine leaf (by omega) ?_
    have h1:=cI n (k:=k) (m:=m) (M:=M) (s:=s) (w:=w) (e:=e) (f:=f) (by omega)
    rw[bp,if_pos hk,WF,WG,WG,du] at h1
    have:=cJ hs;have:=cw hm;have:=cw hM
    omega
   ·refine leaf (by omega) ?_
    have h1:=cI n (k:=k) (m:=m) (M:=M) (s:=s) (w:=w) (e:=e) (f:=f) (by omega)
    rw[bp,if_neg (by omega),if_neg (by omega),if_neg (by omega),if_neg (by omega),if_neg (by omega),if_pos (List.length_pos_iff.2 hw)] at h1
    unfold eh at o3
    rw[if_pos ⟨hk,List.length_pos_iff.2 hw⟩] at o3
    unfold dU at o3
    split at o3
    ·exact absurd o3 (by decide)
    split at o3
    ·exact absurd o3 (by decide)
    rename_i q64
    have hz:=oV _ _ o3
    have:=pK [32,124,32] aA 7000 w fun x hx=>by
     have:=bf x
     have:=hz x hx
     simp only[WG,WL]
     omega
    omega
   ·refine leaf (by omega) ?_
    have h1:=cI n (k:=k) (m:=m) (M:=M) (s:=s) (w:=w) (e:=e) (f:=f) (by omega)
    rw[bp,if_neg (by omega),if_pos hk,du] at h1
    have:=bf (gV m);have:=bf (gV M);have:=Fq m;have:=Fq M
    omega
   ·refine leaf (by omega) ?_
    have h1:=cI n (k:=k) (m:=m) (M:=M) (s:=s) (w:=w) (e:=e) (f:=f) (by omega)
    rw[bp,if_neg (by omega),if_neg (by omega),if_pos hk,du] at h1
    have:=bf (ct m);have:=bf (ct M);have:=vL m;have:=vL M
    omega
   ·have h1:=cI n (k:=k) (m:=m) (M:=M) (s:=s) (w:=w) (e:=e) (f:=f) (by omega)
    rw[bp,if_neg (by omega),if_neg (by omega),if_neg (by omega),if_neg (by omega),if_pos hk,WF,WG,WG,du] at h1
    have:=cJ hm;have:=cJ hM
    rw[c3,if_neg (by omega)] at h ⊢
    subst he
    simp only[ca,if_pos hk] at h ⊢
    obtain⟨g1,g2⟩:=pI (w:=fun x=>((aI n x).length:Int)+34000000) (fun l x=>eM n l x) [x] (l - 1) (by omega) h
    simp only[WP,Xp,List.sum_cons,List.sum_nil,List.headD_cons] at g2 h1
    omega
   ·have h1:=cI n (k:=k) (m:=m) (M:=M) (s:=s) (w:=w) (e:=e) (f:=f) (by omega)
    rw[bp,if_neg (by omega),if_neg (by omega),if_neg (by omega),if_pos hk] at h1
    have hj:=w8 [44,32] (bx (aI n)) f
    rw[c3] at h ⊢
    have hb:∀ g∈f,(¬ g9 n g=true\/k=10)->((bx (aI n) g).length:Int)+2<=((aI n g.typ).length:Int)+33000000:=fun g hg hd=>by
     obtain⟨b',hb⟩:=gF _ _ o5 g hg
     obtain⟨num,nm,nd,typ,d⟩:=g
     obtain⟨g1,g2,g3,g4,g5,g6⟩:=pX hb
     have:=ET (rec:=aI n) (n:=num) (nm:=nm) (nd:=nd) (t:=typ) (d:=d) (by unfold IsN;omega) g1 (fun q=>by
      obtain⟨v,rfl⟩:=g5 q
      subst q
      rcases hd with hd | hd
      ·exact⟨v,rfl,Fo hd⟩
      ·exact absurd (g4 hd) (by decide))
     simp only[TFd.typ]
     omega
    by_cases k9:k=9
    ·rw[if_pos k9] at h ⊢
     obtain⟨g1,g2⟩:=xA (w:=fun g=>((bx (aI n) g).length:Int)+2) f (l - 1) (fun l g hg h0 hc hd=>by
      obtain⟨t1,t2⟩:=eM n l g.typ h0 hc
      have:=hb g hg (.inl hd)
      exact⟨t1,by omega⟩) (by omega) h
     simp only[WG,WL] at hj
     have:(f.map fun x=>((bx (aI n) x).length:Int)+((0+1+1:Nat):Int)).sum=(f.map fun g=>((bx (aI n) g).length:Int)+2).sum:=rfl
     omega
    ·have hk':k=10:=by omega
     rw[if_neg k9] at h ⊢
     simp only[ca,if_neg (show ¬ k=8 by omega),if_pos hk] at h ⊢
     obtain⟨g1,g2⟩:=pI (w:=fun x=>((aI n x).length:Int)+34000000) (fun l x=>eM n l x) (f.map TFd.typ) (l - 1) (by omega) h
     have:=KU f (a:=fun x=>((bx (aI n) x).length:Int)+(([44,32]:List UInt8).length:Int)) (b:=fun g=>((aI n g.typ).length:Int)+34000000) fun g hg=>by
      have:=hb g hg (.inr hk')
      simp only[WG,WL]
      omega
     rw[List.map_map] at g2
     have e:(f.map ((fun x=>((aI n x).length:Int)+34000000)∘TFd.typ)).sum=(f.map fun g=>((aI n g.typ).length:Int)+34000000).sum:=rfl
     omega
def Me:Nat->Typ->Prop
 | 0,_=>False
 | n+1,.mk k m M s w e f=>(aI (n+1) (.mk k m M s w e f)).length<=170000000000/\w.length<=64/\(∀ x∈w,x.length<=1024)/\f.length<=64/\(∀ x∈e,Me n x) /\
   ∀ g∈f,Me n g.typ/\(bx (aI n) g).length<=170000000000/\g.name.length<=40/\(1<=g.number/\g.number<=9999)/\(1<=g.need/\g.need<=3)/\(g.need=3->∃ v,g.dflt=[v]/\xS v=0)
theorem Me.len {n:Nat}{t:Typ}(h:Me n t):(aI n t).length<=170000000000:=by
 cases n with
 | zero=>exact h.elim
 | succ n=>obtain⟨k,m,M,s,w,e,f⟩:=t;exact h.1
theorem uH {rec:Int->Typ->Int×Int}(hr:∀ l x,0<=l->(rec l x).1=0->0<=(rec l x).2/\(rec l x).2<=l):∀ (ts:List Typ) (l:Int),0<=l->(d6 rec l ts).1=0->∀ x∈ts,∃ l',0<=l'/\l'<=l/\(rec l' x).1=0
 | [],_,_,_,x,hx=>by cases hx
 | t::r,l,h0,h,x,hx=>by
   rw[d6] at h
   split at h
   ·rename_i c
    rcases W9.1 hx with rfl | hx
    ·exact⟨l,h0,Int.le_refl _,c⟩
    ·obtain⟨a,b⟩:=hr l t h0 c
     obtain⟨l',q1,q2,q3⟩:=uH hr r _ a h x hx
     exact⟨l',q1,by omega,q3⟩
   ·exact absurd h ‹_›
theorem ER {N:Nat}{rec:Int->Typ->Int×Int}(hr:∀ l x,0<=l->(rec l x).1=0->0<=(rec l x).2/\(rec l x).2<=l):∀ (ts:List TFd) (l:Int),0<=l->(dB N rec l ts).1=0->∀ g∈ts,¬ g9 N g=true/\∃ l',0<=l'/\l'<=l/\(rec l' g.typ).1=0
 | [],_,_,_,x,hx=>by cases hx
 | t::r,l,h0,h,x,hx=>by
   rw[dB] at h
   split at h
   ·rename_i c
    split at h
    ·exact absurd h (by simp)
    rename_i c'
    rcases W9.1 hx with rfl | hx
    ·exact⟨c',l,h0,Int.le_refl _,c⟩
    ·obtain⟨a,b⟩:=hr l t.typ h0 c
     obtain⟨q0,l',q1,q2,q3⟩:=ER hr r _ a h x hx
     exact⟨q0,l',q1,by omega,q3⟩
   ·exact absurd h ‹_›
theorem FD (n:Nat)(l:Int)(t:Typ)(h0:0<=l)(h:(dr 0 n l t).1=0):0<=(dr 0 n l t).2/\(dr 0 n l t).2<=l:=by
 obtain⟨a,b⟩:=eM n l t h0 h
 exact⟨a,by omega⟩
theorem qj:∀ (n:Nat) (l:Int) (t:Typ),0<=l->l<=4096->(dr 0 n l t).1=0->Me n t
 | 0,l,t,_,_,h=>by
   rw[dr] at h
   split at h<;>exact absurd h (by simp)
 | n+1,l,.mk k m M s w e f,h0,h4,h=>by
   obtain⟨ta,tb⟩:=eM (n+1) l _ h0 h
   obtain⟨c1,c2,c3⟩:=p9 h
   obtain⟨o1,o2,o3,o4,o5⟩:=NA c2
   have hT:=gW (n+1) l _ h
   have hf64:=Ld c2
   obtain⟨oe,of⟩:=rn c2
   rw[c3] at h
   have hw:w.length<=64/\∀ x∈w,x.length<=1024:=by
    by_cases hk:k=4/\0<w.length
    ·unfold eh at o3
     rw[if_pos hk] at o3
     unfold dU at o3
     split at o3
     ·exact absurd o3 (by decide)
     split at o3
     ·exact absurd o3 (by decide)
     exact⟨by omega,oV _ _ o3⟩
    ·have:w=[]:=by
      unfold sR at hT
      rcases hT with q | q | q | q | q | q | q | q
      ·exact q.2.2.2.2.1
      ·exact q.2.2.2.2.1
      ·exact q.2.2.2.2.2.1
      ·exact absurd ⟨q.1,List.length_pos_iff.2 q.2.2.2.2.1⟩ hk
      ·exact q.2.2.2.2.1
      ·exact q.2.2.2.2.1
      ·exact q.2.2.2.2.1
      ·exact q.2.2.2.2.1
     rw[this]
     exact⟨by simp,fun x hx=>by cases hx⟩
   refine⟨by omega,hw.1,hw.2,hf64,fun x hx=>?_,fun g hg=>?_⟩
   ·have hk:k=8:=Classical.byContradiction fun q=>by rw[oe q] at hx;cases hx
    rw[if_neg (by omega)] at h
    obtain⟨l',q1,q2,q3⟩:=uH (FD n) _ _ (by omega) h x (by simp only[ca];rw[if_pos hk];exact hx)
    exact qj n l' x q1 (by omega) q3
   ·have hk:k=9\/k=10:=Classical.byContradiction fun q=>by rw[of q] at hg;cases hg
    obtain⟨b',hb⟩:=gF _ _ o5 g hg
    obtain⟨num,nm,nd,typ,d⟩:=g
    obtain⟨g1,g2,g3,g4,g5,g6⟩:=pX hb
    have hnm:nm.length<=40:=by
     have g1':=g1
     unfold bz at g1'
     simp only[Bool.and_eq_true,decide_eq_true_eq] at g1'
     omega
    have key:(∃ l',0<=l'/\l'<=l/\(dr 0 n l' typ).1=0)/\(nd=3->∃ v,d=[v]/\xS v=0):=by
     rcases hk with hk | hk
     ·rw[if_pos hk] at h
      obtain⟨q0,l',q1,q2,q3⟩:=ER (FD n) _ _ (by omega) h _ hg
      refine⟨⟨l',q1,by omega,q3⟩,fun q=>?_⟩
      obtain⟨v,rfl⟩:=g5 q
      subst q
      exact⟨v,rfl,Fo q0⟩
     ·rw[if_neg (by omega)] at h
      obtain⟨l',q1,q2,q3⟩:=uH (FD n) _ _ (by omega) h typ (by simp only[ca];rw[if_neg (by omega),if_pos (.inr hk)];exact List.mem_map.2 ⟨_,hg,rfl⟩)
      exact⟨⟨l',q1,by omega,q3⟩,fun q=>absurd (g4 hk) (by omega)⟩
    obtain⟨⟨l',q1,q2,q3⟩,hd⟩:=key
    have ht:=qj n l' typ q1 (by omega) q3
    have hlt:=eM n l' typ q1 q3
    have hfl:=ET (rec:=aI n) (n:=num) (nm:=nm) (nd:=nd) (t:=typ) (d:=d) (by unfold IsN;omega) g1 hd
    exact⟨ht,by omega,hnm,g2,g3,hd⟩
theorem vX {t:Typ}(h:qu t=0):Me 8 t:=by
 unfold qu at h
 split at h
 ·rename_i c;exact qj 8 4096 t (by omega) (by omega) c
 ·exact absurd h ‹_›
attribute [local irreducible] vc
def tyC (k a b sc:Int):List AV:=[.pv (.int .i64 k),.pv (.int .i64 a),.pv (.int .i64 b),.pv (.int .i64 sc),.pv .nils,.pv .nils,.pv .nils]
def tyB (k a b sc:Int):Blk:=.cells 48 true (tyC k a b sc)
section
variable {T:Nat}{p:PV}
theorem xd (R:Rd)(hR:OkR R):aP Tryz.prog (ci T p) 1 122 [.ptr 0 0] [rdB R] (.pv (.int .i64 (cR R).1)) [rdB (cR R).2]:=by
 have h1:=jJ (T:=T) (p:=p) R 2 hR
 unfold cR
 generalize bV R 2=Q at *
 obtain⟨t,L⟩:=Q
 simp only[rdB,rdC,tkP] at h1 ⊢
 by_cases h0:L.e=0
 ·have h0I:(L.e=0)=True:=eq_true h0
  cases hd:t.dec with
  | true=>
    rw[hd] at h1
    have hf:=cD (T:=T) (p:=p) L t.pos 13
    rw[if_pos ⟨h0,rfl⟩]
    simp only[rdB,rdC] at hf
    refine aP.intro KD.2 (by simp[KD]) ?_
    simp(disch:=try exact dI) only[KD,push_cast,seval]
    refine ae.lentK h1 [0] rfl qsZ qsZ ?_
    simp(disch:=try exact dI) only[h0I,push_cast,seval]
    refine ae.lentK hf [0] rfl qsZ qsZ ?_
    refine zgZ ?_
    exact au [] qsZ
  | false=>
    rw[hd] at h1
    rw[if_neg (fun q=>by cases q.2)]
    refine aP.intro KD.2 (by simp[KD]) ?_
    simp(disch:=try exact dI) only[KD,push_cast,seval]
    refine ae.lentK h1 [0] rfl qsZ qsZ ?_
    simp(disch:=try exact dI) only[h0I,push_cast,seval]
    exact au [] qsZ
 ·rw[if_neg (fun q=>h0 q.1)]
  refine aP.intro KD.2 (by simp[KD]) ?_
  simp(disch:=try exact dI) only[KD,push_cast,seval]
  refine ae.lentK h1 [0] rfl qsZ qsZ ?_
  simp(disch:=try exact dI) only[h0,push_cast,seval]
  exact au [] qsZ
theorem SD (R:Rd)(sc:Int)(hR:OkR R):aP Tryz.prog (ci T p) 1 125 [.ptr 0 0,.pv (.int .i64 sc)] [rdB R] (.pv (.int .i64 (oS sc R).1)) [rdB (oS sc R).2]:=by
 have h1:=jJ (T:=T) (p:=p) R 2 hR
 unfold oS
 generalize bV R 2=Q at *
 obtain⟨t,L⟩:=Q
 simp only[rdB,rdC,tkP] at h1 ⊢
 by_cases h0:L.e=0
 ·have h0I:(L.e=0)=True:=eq_true h0
  have hf:=cD (T:=T) (p:=p) L t.pos 13
  simp only[rdB,rdC] at hf
  cases hd:t.exa with
  | true=>
    rw[hd] at h1
    rw[if_pos ⟨h0,.inl rfl⟩]
    refine aP.intro Bm.2 (by simp[Bm]) ?_
    simp(disch:=try exact dI) only[Bm,push_cast,seval]
    refine ae.lentK h1 [0] rfl qsZ qsZ ?_
    simp(disch:=try exact dI) only[h0I,push_cast,seval]
    refine ae.lentK hf [0] rfl qsZ qsZ ?_
    refine zgZ ?_
    exact au [] qsZ
  | false=>
    rw[hd] at h1
    by_cases hs:(t.sc:Int)=sc
    ·have hsI:((t.sc:Int)=sc)=True:=eq_true hs
     rw[if_neg (fun q=>q.2.elim (fun x=>by cases x) (fun x=>x hs))]
     refine aP.intro Bm.2 (by simp[Bm]) ?_
     simp(disch:=try exact dI) only[Bm,push_cast,seval]
     refine ae.lentK h1 [0] rfl qsZ qsZ ?_
     simp(disch:=try exact dI) only[h0I,hsI,push_cast,seval]
     exact au [] qsZ
    ·rw[if_pos ⟨h0,.inr hs⟩]
     refine aP.intro Bm.2 (by simp[Bm]) ?_
     simp(disch:=try exact dI) only[Bm,push_cast,seval]
     refine ae.lentK h1 [0] rfl qsZ qsZ ?_
     simp(disch:=try exact dI) only[h0I,hs,push_cast,seval]
     refine ae.lentK hf [0] rfl qsZ qsZ ?_
     refine zgZ ?_
     exact au [] qsZ
 ·rw[if_neg (fun q=>h0 q.1)]
  refine aP.intro Bm.2 (by simp[Bm]) ?_
  simp(disch:=try exact dI) only[Bm,push_cast,seval]
  refine ae.lentK h1 [0] rfl qsZ qsZ ?_
  simp(disch:=try exact dI) only[h0,push_cast,seval]
  exact au [] qsZ
def bxB:Blk:=.cells 73 true [.ptr 0 0]
theorem Sg (R:Rd)(k a b sc:Int)(hR:OkR R):aP Tryz.prog (ci T p) 3 124 [.ptr 2 0,.ptr 1 0] [rdB R,tyB k a b sc,bxB] (.pv (.int .i64 (oS sc R).1)) [rdB (oS sc R).2,tyB k a b sc,bxB]:=by
 have h:=SD (T:=T) (p:=p) R sc hR
 generalize oS sc R=Q at *
 obtain⟨n,L⟩:=Q
 simp only[rdB,rdC,tyB,tyC,bxB] at h ⊢
 refine aP.intro VI.2 (by simp[VI]) ?_
 simp(disch:=try exact dI) only[VI,push_cast,seval]
 refine ae.lentK h [0] rfl qsZ qsZ ?_
 refine zgZ ?_
 exact au [] qsZ
theorem Sf (R:Rd)(k a b sc:Int)(hR:OkR R):aP Tryz.prog (ci T p) 3 126 [.ptr 2 0] [rdB R,tyB k a b sc,bxB] (.pv (.int .i64 (aR R bU).1)) [rdB (aR R bU).2,tyB k a b sc,bxB]:=by
 have h:=ji (T:=T) (p:=p) R hR 128 bU Db
 generalize aR R bU=Q at *
 obtain⟨n,L⟩:=Q
 simp only[rdB,rdC,tyB,tyC,bxB] at h ⊢
 refine aP.intro VH.2 (by simp[VH]) ?_
 simp(disch:=try exact dI) only[VH,push_cast,seval]
 refine ae.lentK h [0] rfl qsZ qsZ ?_
 refine zgZ ?_
 exact au [] qsZ
theorem Se (R:Rd)(k a b sc:Int)(hR:OkR R):aP Tryz.prog (ci T p) 3 129 [.ptr 2 0] [rdB R,tyB k a b sc,bxB] (.pv (.int .i64 (aR R bG).1)) [rdB (aR R bG).2,tyB k a b sc,bxB]:=by
 have h:=ji (T:=T) (p:=p) R hR 130 bG mq
 generalize aR R bG=Q at *
 obtain⟨n,L⟩:=Q
 simp only[rdB,rdC,tyB,tyC,bxB] at h ⊢
 refine aP.intro VG.2 (by simp[VG]) ?_
 simp(disch:=try exact dI) only[VG,push_cast,seval]
 refine ae.lentK h [0] rfl qsZ qsZ ?_
 refine zgZ ?_
 exact au [] qsZ
theorem KN (g:Nat)(as1 as2:List AV)(bd:Rd->Int×Rd)(k a b sc:Int)(hs:∀ R,OkR R->OkT R->cE R (bd R).2/\I64 (bd R).1)
  (hb:∀ R a b,OkR R->aP Tryz.prog (ci T p) 3 g (as1++as2) [rdB R,tyB k a b sc,bxB] (.pv (.int .i64 (bd R).1)) [rdB (bd R).2,tyB k a b sc,bxB])
  (hcl:(as1=[]/\as2=[.ptr 2 0,.ptr 1 0])\/(as1=[]/\as2=[.ptr 2 0])) (R:Rd) (hR:OkR R) (hT:OkT R) :
  aP Tryz.prog (ci T p) 3 123 [.ptr 0 0,.ptr 1 0,.clo g as1 as2] [rdB R,tyB k a b sc,bxB] (.pv (.tup [])) [rdB (eI bd R).2,tyB k (eI bd R).1.1 (eI bd R).1.2 sc,bxB]:=by
 have s1:=(hs R hR hT).1
 have h1:=hb R a b hR
 have s2:=aO (t:=[46,46]) s1.1 s1.2.1
 have h2:=aU (T:=T) (p:=p) (bd R).2 [46,46] s1.1
 have h3:=fun a b=>hb (aw (bd R).2 [46,46]) a b s2.1
 unfold eI
 generalize bd R=Q1 at *
 obtain⟨n1,L1⟩:=Q1
 simp only at h1 h2 h3 ⊢
 generalize aw L1 [46,46]=L2 at *
 generalize bd L2=Q3 at *
 obtain⟨n3,L3⟩:=Q3
 have h3:=h3 n1 b
 clear hs hb s1 s2 hR hT
 simp only[rdB,rdC,tyB,tyC,bxB] at h1 h2 h3 ⊢
 rcases hcl with ⟨rfl,rfl⟩ | ⟨rfl,rfl⟩
 all_goals
  simp only[List.nil_append,List.append_nil] at h1 h3
  refine aP.intro P9.2 (by simp[P9]) ?_
  simp(disch:=try exact dI) only[P9,push_cast,seval]
  refine ae.lentK h1 [0,1,2] rfl qsZ qsZ ?_
  refine zgZ ?_
  refine ae.lentK h2 [0] rfl qsZ qsZ ?_
  refine zgZ ?_
  refine ae.lentK h3 [0,1,2] rfl qsZ qsZ ?_
  refine zgZ ?_
  exact au [] qsZ
theorem tj (k a b sc:Int)(R:Rd)(hR:OkR R)(hT:OkT R) :
  aP Tryz.prog (ci T p) 2 123 [.ptr 0 0,.ptr 1 0,.clo 122 [.ptr 0 0] []] [rdB R,tyB k a b sc] (.pv (.tup [])) [rdB (eI cR R).2,tyB k (eI cR R).1.1 (eI cR R).1.2 sc]:=by
 have s1:=(cG hR hT).1
 have h1:=xd (T:=T) (p:=p) R hR
 have s2:=aO (t:=[46,46]) s1.1 s1.2.1
 have h2:=aU (T:=T) (p:=p) (cR R).2 [46,46] s1.1
 have h3:=xd (T:=T) (p:=p) _ s2.1
 unfold eI
 generalize cR R=Q1 at *
 obtain⟨n1,L1⟩:=Q1
 simp only at h1 h2 h3 ⊢
 generalize aw L1 [46,46]=L2 at *
 generalize cR L2=Q3 at *
 obtain⟨n3,L3⟩:=Q3
 simp only[rdB,rdC,tyB,tyC] at h1 h2 h3 ⊢
 refine aP.intro P9.2 (by simp[P9]) ?_
 simp(disch:=try exact dI) only[P9,push_cast,seval]
 refine ae.lentK h1 [0] rfl qsZ qsZ ?_
 refine zgZ ?_
 refine ae.lentK h2 [0] rfl qsZ qsZ ?_
 refine zgZ ?_
 refine ae.lentK h3 [0] rfl qsZ qsZ ?_
 refine zgZ ?_
 exact au [] qsZ
end
theorem K5 (i:Nat)(hi:i<10):∃ w a b c d e f g,uG[i]? = some w/\ft true 11 8 (.pv (.agg wW)) (.pv (.int .i64 ((i:Int)+1)))=some (.pv (.agg [.str w,.int .i64 a,.int .i64 b,.bool c,.bool d,.bool e,.bool f,.bool g])):=by
 have hc:i=0\/i=1\/i=2\/i=3\/i=4\/i=5\/i=6\/i=7\/i=8\/i=9:=by omega
 rcases hc with rfl | rfl | rfl | rfl | rfl | rfl | rfl | rfl | rfl | rfl
 all_goals exact⟨_,_,_,_,_,_,_,_,rfl,rfl⟩
theorem gE (t:List UInt8):am Tryz.prog aC 120 [.str t] (.tup [.int .i64 (bH t),.int .i64 (if bH t=0 then 8 else 0)]):=by
 have hk:=pH
 generalize hZ:bH t=Z
 unfold bH at hZ
 refine am.intro VJ.2 (by simp[VJ]) ?_
 simp(disch:=try exact dI) only[VJ,push_cast,seval]
 refine aG ([]) (fun i:Nat=>[(4,.pv (.int .i64 ((i:Int)+1)))]) (fun _=>[]) (fun i=>i<=10/\Eb ((i:Int)+1) (uG.drop i) t=Z) (fun i=>10 - i) (0) ?_;intro e0 σ0 n0 h0;simp(disch:=try exact dI) only[push_cast,seval] at h0;obtain⟨rfl,rfl,rfl⟩:=h0;refine⟨?_,?_,?_⟩
 ·exact qsZ
 ·exact⟨by omega,hZ⟩
 rintro i ⟨hi,he⟩
 by_cases hlt:i<10
 ·obtain⟨w,a,b,c,d,e,f,g,hw,hr⟩:=K5 i hlt
  rw[dm hw,Eb] at he
  have hltI:(i:Int)+1<=10:=by omega
  by_cases hwt:w=t
  ·rw[if_pos hwt] at he
   subst he
   subst hwt
   have h0:¬ (i:Int)+1=0:=by omega
   refine zgZ ?_
   refine ae.pure hk rfl ?_
   simp(disch:=try exact dI) only[hr,eq_self,h0,push_cast,seval]
  ·rw[if_neg hwt] at he
   refine zgZ ?_
   refine ae.pure hk rfl ?_
   simp(disch:=try exact dI) only[hr,hwt,push_cast,seval]
   exact⟨i+1,bl qsZ,⟨by omega,by rw[<- he];push_cast;rfl⟩,by omega⟩
 ·obtain rfl:i=10:=by omega
  have hz:Z=0:=he.symm.trans rfl
  subst hz
  exact qsZ
theorem Sx (v:Val):kM 6 1 [.pv v.pv]=some (.pv (.list [v.pv]),[]):=by
 obtain⟨w1,w2,w3,w4,w5,w6⟩:=v
 rw[WD]
 exact gr rfl rfl
def Qa (T:Nat)(p:PV)(kind:Rd->Typ×Rd)(s:List UInt8)(d:Nat):Prop:=
 ∀ R,OkR R->OkT R->R.s=s->aP Tryz.prog (ci T p) 1 56 [.ptr 0 0,.pv (.int .i64 (d:Int))] [rdB R] (.pv (kind R).1.pv) [rdB (kind R).2]
section
variable {T:Nat}{p:PV}
theorem JI (kind:Rd->Typ×Rd)(val:Rd->Val×Rd)(s:List UInt8)(d:Nat)(hd:d<=8)(hk:KF kind s)(hkc:Qa T p kind s (d+1))(hvc:Pv T p val s 0)(R:Rd)(hR:OkR R)(hT:OkT R)(hs:R.s=s) :
  aP Tryz.prog (ci T p) 1 133 [.ptr 0 0,.pv (.int .i64 (d:Int))] [rdB R] (.pv (pU kind val R).1.pv) [rdB (pU kind val R).2]:=by
 obtain⟨a,b,c,x,k,e,q,ko,_,_,_⟩:=qK hk hR hT hs
 have hA:=xd (T:=T) (p:=p) R hR
 have hB:aP Tryz.prog (ci T p) 1 166 [.ptr 0 0] [rdB (cR R).2] (.pv (.str (uP R).1)) [rdB (uP R).2]:=DJ (T:=T) (p:=p) (cR R).2 a.1
 have hC:aP Tryz.prog (ci T p) 1 132 [.ptr 0 0,.pv (.str [63])] [rdB (uP R).2] (.pv (.bool (sh R).1)) [rdB (sh R).2]:=gM (T:=T) (p:=p) (uP R).2 [63] b.1
 have hX:=aU (T:=T) (p:=p) (sh R).2 [58] c.1
 have hK:aP Tryz.prog (ci T p) 1 56 [.ptr 0 0,.pv (.int .i64 ((d+1:Nat):Int))] [rdB (aw (sh R).2 [58])] (.pv (jp kind R).1.pv) [rdB (jp kind R).2]:=hkc (aw (sh R).2 [58]) x.1 x.2.1 (x.2.2.1.trans hs)
 have hI:=Am (T:=T) (p:=p) (jp kind R).2 [61]
 have hF:=cD (T:=T) (p:=p) (jp kind R).2 (jp kind R).2.now.pos 13
 have hQ:aP Tryz.prog (ci T p) 1 132 [.ptr 0 0,.pv (.str [61])] [rdB (At kind R)] (.pv (.bool (ny kind R).1)) [rdB (ny kind R).2]:=gM (T:=T) (p:=p) (At kind R) [61] e.1
 have hV:=hvc (ny kind R).2 q.1 q.2.1 (q.2.2.1.trans hs)
 have eE:At kind R=if isT (jp kind R).2 [61]=true/\(sh R).1=true then ba (jp kind R).2 (jp kind R).2.now.pos 13 else (jp kind R).2:=rfl
 obtain⟨Z,hZ⟩:∃ Z,Z=pU kind val R:=⟨_,rfl⟩
 have hZ2:pU kind val R=if (ny kind R).1=true then (.mk (cR R).1 (uP R).1 3 (jp kind R).1 [(val (ny kind R).2).1],(val (ny kind R).2).2)
  else (.mk (cR R).1 (uP R).1 (if (sh R).1=true then 2 else 1) (jp kind R).1 [],(ny kind R).2):=rfl
 rw[<- hZ]
 rw[hZ2] at hZ
 clear hZ2 hk hkc hvc a b c x k e q ko
 generalize val (ny kind R).2=V at *
 generalize ny kind R=Q at *
 generalize At kind R=E at *
 generalize isT (jp kind R).2 [61]=i at *
 generalize ba (jp kind R).2 (jp kind R).2.now.pos 13=Fl at *
 generalize jp kind R=K at *
 generalize aw (sh R).2 [58]=X at *
 generalize sh R=C at *
 generalize uP R=B at *
 generalize cR R=A at *
 obtain⟨n,LA⟩:=A
 obtain⟨nm,LB⟩:=B
 obtain⟨cb,LC⟩:=C
 obtain⟨⟨t1,t2,t3,t4,t5,t6,t7⟩,LK⟩:=K
 obtain⟨qb,LQ⟩:=Q
 obtain⟨v,LV⟩:=V
 have hbs:=Sx v
 obtain⟨v1,v2,v3,v4,v5,v6⟩:=v
 simp only[rdB,rdC,WB,WD] at hA hB hC hX hK hI hF hQ hV hbs eE hZ ⊢
 refine aP.intro VF.2 (by simp[VF]) ?_
 simp(disch:=try exact dI) only[VF,push_cast,seval]
 refine ae.lentK hA [0] rfl qsZ qsZ ?_
 refine zgZ ?_
 refine ae.lentK hB [0] rfl qsZ qsZ ?_
 refine zgZ ?_
 refine ae.lentK hC [0] rfl qsZ qsZ ?_
 cases cb with
 | true=>
   refine zgZ ?_
   refine ae.lentK hX [0] rfl qsZ qsZ ?_
   refine zgZ ?_
   refine ae.lentK hK [0] rfl qsZ qsZ ?_
   refine zgZ ?_
   refine ae.lentK hI [0] rfl qsZ qsZ ?_
   cases i with
   | true=>
     rw[if_pos ⟨rfl,rfl⟩] at eE
     subst eE
     refine zgZ ?_
     refine ae.lentK hF [0] rfl qsZ qsZ ?_
     refine zgZ ?_
     refine ae.lentK hQ [0] rfl qsZ qsZ ?_
     cases qb with
     | true=>
       rw[if_pos rfl] at hZ
       subst hZ
       refine zgZ ?_
       refine ae.lentK hV [0] rfl qsZ qsZ ?_
       simp(disch:=try exact dI) only[hbs,push_cast,seval]
       exact au [] (by simp(disch:=try exact dI) only[rdB,rdC,Wt,WB,WD,ap,push_cast,seval])
     | false=>
       rw[if_neg (by decide)] at hZ
       subst hZ
       refine zgZ ?_
       exact au [] (by simp(disch:=try exact dI) only[rdB,rdC,Wt,WB,WD,ap,push_cast,seval])
   | false=>
     rw[if_neg (fun q=>by cases q.1)] at eE
     subst eE
     refine zgZ ?_
     refine ae.lentK hQ [0] rfl qsZ qsZ ?_
     cases qb with
     | true=>
       rw[if_pos rfl] at hZ
       subst hZ
       refine zgZ ?_
       refine ae.lentK hV [0] rfl qsZ qsZ ?_
       simp(disch:=try exact dI) only[hbs,push_cast,seval]
       exact au [] (by simp(disch:=try exact dI) only[rdB,rdC,Wt,WB,WD,ap,push_cast,seval])
     | false=>
       rw[if_neg (by decide)] at hZ
       subst hZ
       refine zgZ ?_
       exact au [] (by simp(disch:=try exact dI) only[rdB,rdC,Wt,WB,WD,ap,push_cast,seval])
 | false=>
   refine zgZ ?_
   refine ae.lentK hX [0] rfl qsZ qsZ ?_
   refine zgZ ?_
   refine ae.lentK hK [0] rfl qsZ qsZ ?_
   refine zgZ ?_
   refine ae.lentK hI [0] rfl qsZ qsZ ?_
   cases i with
   | true=>
     rw[if_neg (fun q=>by cases q.2)] at eE
     subst eE
     refine zgZ ?_
     refine ae.lentK hQ [0] rfl qsZ qsZ ?_
     cases qb with
     | true=>
       rw[if_pos rfl] at hZ
       subst hZ
       refine zgZ ?_
       refine ae.lentK hV [0] rfl qsZ qsZ ?_
       simp(disch:=try exact dI) only[hbs,push_cast,seval]
       exact au [] (by simp(disch:=try exact dI) only[rdB,rdC,Wt,WB,WD,ap,push_cast,seval])
     | false=>
       rw[if_neg (by decide)] at hZ
       subst hZ
       refine zgZ ?_
       exact au [] (by simp(disch:=try exact dI) only[rdB,rdC,Wt,WB,WD,ap,push_cast,seval])
   | false=>
     rw[if_neg (fun q=>by cases q.1)] at eE
     subst eE
     refine zgZ ?_
     refine ae.lentK hQ [0] rfl qsZ qsZ ?_
     cases qb with
     | true=>
       rw[if_pos rfl] at hZ
       subst hZ
       refine zgZ ?_
       refine ae.lentK hV [0] rfl qsZ qsZ ?_
       simp(disch:=try exact dI) only[hbs,push_cast,seval]
       exact au [] (by simp(disch:=try exact dI) only[rdB,rdC,Wt,WB,WD,ap,push_cast,seval])
     | false=>
       rw[if_neg (by decide)] at hZ
       subst hZ
       refine zgZ ?_
       exact au [] (by simp(disch:=try exact dI) only[rdB,rdC,Wt,WB,WD,ap,push_cast,seval])
end
