/- A part. -/
import Derived.Test.YtamoeblcphjbaaaGreatDoorBlLQ6
set_option linter.unusedVariables false
set_option linter.unusedSimpArgs false
set_option maxHeartbeats 16000000
set_option maxRecDepth 100000
namespace Go.Proofs.YtamoeblcphjbaaaGreatDoor
open Go Go.Ab Go.RowKit
attribute [local irreducible] vc
def tK:Nat->Val->Prop
 | 0,_=>False
 | n+1,v=>(∀ x∈v.lst,tK n x)/\∀ x∈v.fields,tK n x.value
theorem mD:∀ (n:Nat) (v:Val),tK n v->tK (n+1) v
 | 0,_,h=>h.elim
 | n+1,v,h=>⟨fun x hx=>mD n x (h.1 x hx),fun x hx=>mD n x.value (h.2 x hx)⟩
theorem pa {n m:Nat}(h:n<=m){v:Val}(hv:tK n v):tK m v:=by
 induction h with
 | refl=>exact hv
 | step _ ih=>exact mD _ _ ih
theorem tI {α:Type}(g:α->Val):∀ l:List α,(∀ x∈l,∃ n,tK n (g x))->∃ n,∀ x∈l,tK n (g x)
 | [],_=>⟨0,by simp⟩
 | x::r,h=>by
   obtain⟨n,hn⟩:=h x (by simp)
   obtain⟨m,hm⟩:=tI g r fun y hy=>h y (List.mem_cons_of_mem _ hy)
   refine⟨max n m,fun y hy=>?_⟩
   rcases List.mem_cons.1 hy with rfl | hy
   ·exact pa (Nat.le_max_left _ _) hn
   ·exact pa (Nat.le_max_right _ _) (hm y hy)
theorem g7 (v:Val):∃ n,tK n v:=by
 obtain⟨k,n,s,t,l,fs⟩:=v
 have h1:∀ x∈l,∃ n,tK n x:=fun x hx=>g7 x
 have h2:∀ x∈fs,∃ n,tK n x.value:=fun x hx=>by
  obtain⟨nm,y⟩:=x
  exact g7 y
 obtain⟨a,ha⟩:=tI id l h1
 obtain⟨b,hb⟩:=tI Fld.value fs h2
 exact⟨max a b+1,fun x hx=>pa (Nat.le_max_left _ _) (ha x hx),fun x hx=>pa (Nat.le_max_right _ _) (hb x hx)⟩
termination_by SizeOf.sizeOf v
decreasing_by
 ·have:=List.sizeOf_lt_of_mem hx;simp;omega
 ·have:=List.sizeOf_lt_of_mem hx;simp at this ⊢;omega
theorem ky:∀ (n:Nat) (v:Val),tK n v->j3 n v
 | 0,_,h=>h
 | n+1,v,h=>fun x hx=>by
   unfold cY at hx
   split at hx
   ·exact ky n x (h.1 x hx)
   ·split at hx
    ·obtain⟨y,hy,rfl⟩:=List.mem_map.1 hx
     exact ky n _ (h.2 y hy)
    ·simp at hx
noncomputable def JD (v:Val):Int:=pm 0 (fm (g7 v).choose 1 v)
theorem D2 (v:Val)(hv:v.ok):au Tryz.prog aH 15 [v.pv] (.int .i64 (JD v)):=kB _ v (ky _ v (g7 v).choose_spec) hv
noncomputable def Q9 (v:Val)(R:Rd):Val×Int×Int:=
 if R.e=0 then (if fx v=true then (v,0,0) else if JD v=0 then (v,0,0) else (bh,(R.off:Int),JD v)) else (bh,(R.off:Int),R.e)
noncomputable def eD (s:List UInt8):Val×Int×Int:=Q9 (aR srt 8 0 (aY s)).1 (dR (aR srt 8 0 (aY s)).2)
section
variable {T:Nat}{p:PV}
theorem di (s:List UInt8):OkT (aY s):=by
 by_cases h:65536<s.length
 ·rw[ja h];intro h;exact absurd (show (5:Int)=0 from h) (by decide)
 ·rw[kU h]
  rcases B8 (uS (s:=s) (by omega)) with h2 | h2
  ·exact h2
  ·rw[h2];exact fun _=>⟨bw,by simp[rd0],by simp[rd0],by simp[rd0],fun _=>rfl⟩
theorem fK (s:List UInt8):(aY s).s=s:=by
 by_cases h:65536<s.length
 ·rw[ja h]
 ·rw[kU h,QB];rfl
theorem TG (s:List UInt8):(aR srt 8 0 (aY s)).1.ok/\aI Tryz.prog (bE T p) 1 46 [.ptr 0 0,.pv (.int .i64 0)] [rdB (aY s)] (.pv (aR srt 8 0 (aY s)).1.pv) [rdB (aR srt 8 0 (aY s)).2]:=by
 by_cases h:s.length<=65536
 ·exact⟨(ig s h 8 0 _ (d9 s) (di s) (fK s)).1,IJ s h 8 0 rfl _ (d9 s) (di s) (fK s)⟩
 ·have he:¬ (aY s).e=0:=by rw[ja (by omega)];exact fun h=>absurd (show (5:Int)=0 from h) (by decide)
  rw[nY he]
  refine⟨dq,?_⟩
  generalize aY s=R at *
  simp only[rdB,rdC,bh,Un]
  refine aI.intro Q46.2 (by simp[Q46]) ?_
  simp(disch:=try exact dI) only[Q46,he,push_cast,seval]
  exact am [] qsZ
theorem BR (s:List UInt8):au Tryz.prog (bE T p) 18 [.str s] (.tup [(eD s).1.pv,.int .i64 (eD s).2.1,.int .i64 (eD s).2.2]):=by
 have h45:=AP (T:=T) (p:=p) s
 obtain⟨hok,h46⟩:=TG (T:=T) (p:=p) s
 unfold eD
 generalize aY s=R0 at *
 generalize aR srt 8 0 R0=q at *
 obtain⟨v,R1⟩:=q
 simp only at hok h46 ⊢
 have h47:=vO (T:=T) (p:=p) R1
 have h16:=toE (T:=T) (p:=p) (Ce v)
 have h15:=toE (T:=T) (p:=p) (D2 v hok)
 unfold Q9
 generalize dR R1=R2 at *
 generalize JD v=c at *
 generalize fx v=b at *
 obtain⟨w1,w2,w3,w4,w5,w6⟩:=v
 simp only[rdB,rdC,Un] at h45 h46 h47 h16 h15
 by_cases he:R2.e=0
 ·have heI:(R2.e=0)=True:=eq_true he
  rw[if_pos he]
  cases b with
  | true=>
    rw[if_pos rfl]
    refine au.intro Q18.2 (by simp[Q18]) ?_
    simp(disch:=try exact dI) only[Q18,Un,push_cast,seval]
    refine ae.lentK h45 [] rfl qsZ qsZ ?_
    refine zgZ ?_
    refine ae.lentK h46 [1] rfl qsZ qsZ ?_
    refine zgZ ?_
    refine ae.lentK h47 [1] rfl qsZ qsZ ?_
    simp(disch:=try exact dI) only[heI,push_cast,seval]
    refine ae.pure h16 rfl ?_
    simp(disch:=try exact dI) only[heI,push_cast,seval]
  | false=>
    rw[if_neg (by decide)]
    by_cases hc:c=0
    ·have hcI:(c=0)=True:=eq_true hc
     rw[if_pos hc]
     refine au.intro Q18.2 (by simp[Q18]) ?_
     simp(disch:=try exact dI) only[Q18,Un,push_cast,seval]
     refine ae.lentK h45 [] rfl qsZ qsZ ?_
     refine zgZ ?_
     refine ae.lentK h46 [1] rfl qsZ qsZ ?_
     refine zgZ ?_
     refine ae.lentK h47 [1] rfl qsZ qsZ ?_
     simp(disch:=try exact dI) only[heI,push_cast,seval]
     refine ae.pure h16 rfl ?_
     refine zgZ ?_
     refine ae.pure h15 rfl ?_
     simp(disch:=try exact dI) only[hcI,push_cast,seval]
    ·rw[if_neg hc]
     refine au.intro Q18.2 (by simp[Q18]) ?_
     simp(disch:=try exact dI) only[Q18,Un,bh,push_cast,seval]
     refine ae.lentK h45 [] rfl qsZ qsZ ?_
     refine zgZ ?_
     refine ae.lentK h46 [1] rfl qsZ qsZ ?_
     refine zgZ ?_
     refine ae.lentK h47 [1] rfl qsZ qsZ ?_
     simp(disch:=try exact dI) only[heI,push_cast,seval]
     refine ae.pure h16 rfl ?_
     refine zgZ ?_
     refine ae.pure h15 rfl ?_
     simp(disch:=try exact dI) only[hc,push_cast,seval]
 ·rw[if_neg he]
  refine au.intro Q18.2 (by simp[Q18]) ?_
  simp(disch:=try exact dI) only[Q18,Un,bh,push_cast,seval]
  refine ae.lentK h45 [] rfl qsZ qsZ ?_
  refine zgZ ?_
  refine ae.lentK h46 [1] rfl qsZ qsZ ?_
  refine zgZ ?_
  refine ae.lentK h47 [1] rfl qsZ qsZ ?_
  simp(disch:=try exact dI) only[he,push_cast,seval]
end
def eqK (a b:Tk):Prop:=a.kind=b.kind/\a.text=b.text/\a.bytes=b.bytes/\a.num=b.num/\a.sc=b.sc/\a.dec=b.dec/\a.exa=b.exa
theorem vX (a:Tk):eqK a a:=⟨rfl,rfl,rfl,rfl,rfl,rfl,rfl⟩
def QG (R Q:Rd):Prop:=R.e=Q.e/\(R.e=0->eqK R.now Q.now)
def Il:Nat->Rd->Rd
 | 0,R=>R
 | n+1,R=>Il n (aT R)
def Str (R Q:Rd):Prop:=∀ n,QG (Il n R) (Il n Q)
theorem Str.e {R Q:Rd}(h:Str R Q):R.e=Q.e:=(h 0).1
theorem Str.k {R Q:Rd}(h:Str R Q)(h0:R.e=0):eqK R.now Q.now:=(h 0).2 h0
theorem Str.adv {R Q:Rd}(h:Str R Q):Str (aT R) (aT Q):=fun n=>h (n+1)
theorem pc {R:Rd}(h:R.e≠0):∀ n,Il n R=R
 | 0=>rfl
 | n+1=>by rw[Il,rB h];exact pc h n
theorem Str.err {R Q:Rd}(h:R.e=Q.e)(h0:R.e≠0):Str R Q:=fun n=>by
 rw[pc h0,pc (by rw[<- h];exact h0)]
 exact⟨h,fun q=>absurd q h0⟩
theorem Str.fail {R Q:Rd}(h:Str R Q){i j:Nat}{e:Int}(he:e≠0):Str (aP R i e) (aP Q j e):=by
 by_cases h0:R.e=0
 ·have q0:Q.e=0:=by rw[<- h.e];exact h0
  refine Str.err ?_ (bn he)
  unfold aP
  rw[if_pos h0,if_pos q0]
 ·rw[Du h0,Du (by rw[<- h.e];exact h0)];exact h
theorem Str.is {R Q:Rd}(h:Str R Q)(t:List UInt8):isT R t=isT Q t:=by
 unfold isT
 by_cases h0:R.e=0
 ·obtain⟨k1,k2,_⟩:=h.k h0
  rw[<- h.e,k1,k2]
 ·have q0:¬ Q.e=0:=by rw[<- h.e];exact h0
  simp only[decide_eq_false h0,decide_eq_false q0,Bool.false_and]
theorem Str.expect {R Q:Rd}(h:Str R Q)(t:List UInt8):Str (aq R t) (aq Q t):=by
 unfold aq
 rw[<- h.is t,<- h.e]
 split
 ·split
  ·exact h.adv
  ·exact h.fail (by decide)
 ·exact h
theorem Str.accept {R Q:Rd}(h:Str R Q)(t:List UInt8):(bp R t).1=(bp Q t).1/\Str (bp R t).2 (bp Q t).2:=by
 unfold bp
 rw[<- h.is t]
 split
 ·exact⟨rfl,h.adv⟩
 ·exact⟨rfl,h⟩
theorem Str.take {R Q:Rd}(h:Str R Q)(k:Int):eqK (bi R k).1 (bi Q k).1/\Str (bi R k).2 (bi Q k).2:=by
 by_cases h0:R.e=0
 ·have q0:Q.e=0:=by rw[<- h.e];exact h0
  have hk:=h.k h0
  by_cases hx:R.now.kind=k
  ·rw[kP h0 hx,kP q0 (by rw[<- hk.1];exact hx)]
   exact⟨hk,h.adv⟩
  ·rw[take_2 h0 hx,take_2 q0 (by rw[<- hk.1];exact hx)]
   exact⟨vX _,h.fail (by decide)⟩
 ·have q0:¬ Q.e=0:=by rw[<- h.e];exact h0
  rw[take_3 h0,take_3 q0]
  exact⟨vX _,h⟩
theorem Str.name {R Q:Rd}(h:Str R Q):(dm R).1=(dm Q).1/\Str (dm R).2 (dm Q).2:=by
 obtain⟨h1,h2⟩:=h.take 1
 unfold dm
 simp only
 refine⟨h1.2.1,?_⟩
 rw[<- h2.e,<- h1.2.1]
 split
 ·exact h2.fail (by decide)
 ·exact h2
theorem Str.moment {R Q:Rd}(h:Str R Q)(ps:List UInt8->Int×Int):(aO R ps).1=(aO Q ps).1/\Str (aO R ps).2 (aO Q ps).2:=by
 obtain⟨h1,h2⟩:=h.take 3
 unfold aO
 simp only
 rw[<- h2.e,<- h1.2.2.1]
 split
 ·refine⟨rfl,?_⟩
  simp only
  split
  ·exact h2
  ·rename_i hne
   exact h2.fail hne
 ·exact⟨rfl,h2⟩
structure Two (s s':List UInt8)(R Q:Rd):Prop where
 rok:OkR R
 rtk:OkT R
 rs:R.s=s
 qok:OkR Q
 qtk:OkT Q
 qs:Q.s=s'
 str:Str R Q
theorem Two.step {s s':List UInt8}{R Q R' Q':Rd}(h:Two s s' R Q)(hr:bY R R')(hq:bY Q Q')(hs:Str R' Q'):Two s s' R' Q':=
 ⟨hr.1,hr.2.1,hr.2.2.1.trans h.rs,hq.1,hq.2.1,hq.2.2.1.trans h.qs,hs⟩
def Nc (s s':List UInt8)(val:Rd->Val×Rd):Prop:=∀ R Q,Two s s' R Q->(val R).1=(val Q).1/\Str (val R).2 (val Q).2
section
variable {s s':List UInt8}{val:Rd->Val×Rd}
theorem qU {R Q:Rd}(h:Str R Q)(b:Bool)(t:List UInt8):Str (if b=true then R else aq R t) (if b=true then Q else aq Q t):=by
 cases b with
 | true=>exact h
 | false=>exact h.expect t
theorem u7 (hv:mI val s)(hv':mI val s')(hE:Nc s s' val):∀ (k j:Nat) (b:Bool) (l:List Val) (R Q:Rd),Two s s' R Q->msr R<k->msr Q<j ->
  (dp val k b l R).1=(dp val j b l Q).1/\Str (dp val k b l R).2 (dp val j b l Q).2
 | 0,_,_,_,_,_,_,h,_=>absurd h (by omega)
 | _+1,0,_,_,_,_,_,_,h=>absurd h (by omega)
 | k+1,j+1,b,l,R,Q,h,hk,hj=>by
   by_cases hc:R.e=0/\isT R [93]=false
   ·have hc':Q.e=0/\isT Q [93]=false:=by rw[<- h.str.e,<- h.str.is];exact hc
    rw[kn hc,kn hc']
    obtain⟨a1,a2,_,a4⟩:=gl hv b h.rok h.rtk h.rs hc.1
    obtain⟨b1,b2,_,b4⟩:=gl hv' b h.qok h.qtk h.qs hc'.1
    have hf:=qU h.str b [44]
    generalize (if b=true then R else aq R [44])=R1 at *
    generalize (if b=true then Q else aq Q [44])=Q1 at *
    obtain⟨e1,e2⟩:=hE R1 Q1 (h.step a1 b1 hf)
    rw[e1]
    exact u7 hv hv' hE k j false _ _ _ (h.step a2 b2 e2) (by omega) (by omega)
   ·rw[kj hc,kj (by rw[<- h.str.e,<- h.str.is];exact hc)]
    exact⟨rfl,h.str⟩
theorem Bf (hv:mI val s)(hv':mI val s')(hE:Nc s s' val):∀ (k j:Nat) (b:Bool) (seen:List (List UInt8)) (l:List Fld) (R Q:Rd),Two s s' R Q->msr R<k->msr Q<j ->
  (jH val k b seen l R).1=(jH val j b seen l Q).1/\Str (jH val k b seen l R).2 (jH val j b seen l Q).2
 | 0,_,_,_,_,_,_,_,h,_=>absurd h (by omega)
 | _+1,0,_,_,_,_,_,_,_,h=>absurd h (by omega)
 | k+1,j+1,b,seen,l,R,Q,h,hk,hj=>by
   by_cases hc:R.e=0/\isT R [125]=false
   ·have hc':Q.e=0/\isT Q [125]=false:=by rw[<- h.str.e,<- h.str.is];exact hc
    rw[om hc,om hc']
    obtain⟨_,_,_,_,a5,a6,_,a8⟩:=fP hv b seen h.rok h.rtk h.rs hc.1
    obtain⟨_,_,_,_,b5,b6,_,b8⟩:=fP hv' b seen h.qok h.qtk h.qs hc'.1
    have hn:(pK b R).1=(pK b Q).1/\Str (pK b R).2 (pK b Q).2:=(qU h.str b [44]).name
    have hd:Str (gx seen b R) (gx seen b Q):=by
     unfold gx
     rw[<- hn.2.e,<- hn.1]
     split
     ·exact hn.2.fail (by decide)
     ·exact hn.2
    rw[<- hn.1]
    have hx:=hd.expect [58]
    generalize aq (gx seen b R) [58]=R1 at *
    generalize aq (gx seen b Q) [58]=Q1 at *
    obtain⟨e1,e2⟩:=hE R1 Q1 (h.step a5 b5 hx)
    rw[e1]
    exact Bf hv hv' hE k j false _ _ _ _ (h.step a6 b6 e2) (by omega) (by omega)
   ·rw[ol hc,ol (by rw[<- h.str.e,<- h.str.is];exact hc)]
    exact⟨rfl,h.str⟩
theorem Cr (hE:Nc s s' val){R Q:Rd}(h:Two s s' R Q){t u:Tk}(ht:eqK t u)(d:Nat):(cf val R t d).1=(cf val Q u d).1/\Str (cf val R t d).2 (cf val Q u d).2:=by
 unfold cf
 rw[<- h.str.e,<- h.str.is,<- ht.2.1]
 split
 ·split
  ·split
   ·exact⟨rfl,h.str.fail (by decide)⟩
   ·have ha:=h.step (aQ h.rok h.rtk).1 (aQ h.qok h.qtk).1 h.str.adv
    obtain⟨e1,e2⟩:=hE _ _ ha
    simp only
    rw[e1]
    exact⟨rfl,e2.expect _⟩
  split
  ·exact⟨rfl,h.str⟩
  split
  ·exact⟨rfl,h.str⟩
  split
  ·obtain⟨e1,e2⟩:=h.str.moment bz
   simp only
   rw[e1]
   exact⟨rfl,e2⟩
  split
  ·obtain⟨e1,e2⟩:=h.str.moment br
   simp only
   rw[e1]
   exact⟨rfl,e2⟩
  split
  ·exact⟨rfl,h.str⟩
  ·exact⟨rfl,h.str.fail (by decide)⟩
 ·exact⟨rfl,h.str⟩
end
theorem vY {a b:Tk}(h:eqK a b):cL a↔cL b:=by
 unfold cL
 rw[h.1,h.2.1]
theorem jO {R:Rd}(s:List UInt8)(hs:R.s=s):msr R<s.length+2:=by
 unfold msr
 split
 ·rw[hs];omega
 ·omega
theorem kM {s s':List UInt8}(hs:s.length<=65536)(hs':s'.length<=65536):∀ f d,Nc s s' (aR srt f d)
 | 0,d=>fun R Q h=>by
   by_cases h0:R.e=0
   ·have q0:Q.e=0:=by rw[<- h.str.e];exact h0
    have hg:=vY (h.str.k h0)
    by_cases g:cL R.now
    ·rw[dA h0 g,dA q0 (hg.1 g)];exact⟨rfl,h.str.fail (by decide)⟩
    ·rw[fG h0 g,fG q0 (fun q=>g (hg.2 q))];exact⟨rfl,h.str.fail (by decide)⟩
   ·rw[nY h0,nY (by rw[<- h.str.e];exact h0)];exact⟨rfl,h.str⟩
 | f+1,d=>fun R Q h=>by
   by_cases h0:¬ R.e=0
   ·rw[nY h0,nY (by rw[<- h.str.e];exact h0)];exact⟨rfl,h.str⟩
   have h0:R.e=0:=Classical.not_not.1 h0
   have q0:Q.e=0:=by rw[<- h.str.e];exact h0
   have hk:=h.str.k h0
   have hg:=vY hk
   by_cases g:¬ cL R.now
   ·rw[fG h0 g,fG q0 (fun q=>g (hg.2 q))];exact⟨rfl,h.str.fail (by decide)⟩
   have g:cL R.now:=Classical.not_not.1 g
   rw[fj h0 g,fj q0 (hg.1 g)]
   have ih:=kM hs hs' f (d+1)
   have iv:=ig s hs f (d+1)
   have iv':=ig s' hs' f (d+1)
   have ha:=h.step (aQ h.rok h.rtk).1 (aQ h.qok h.qtk).1 h.str.adv
   obtain⟨k1,k2,k3,k4,k5,k6,k7⟩:=hk
   unfold cn
   rw[<- k1,<- k2,<- k3,<- k4,<- k5,<- k6,h.rs,h.qs]
   split
   ·exact⟨rfl,ha.str⟩
   split
   ·exact⟨rfl,ha.str⟩
   split
   ·exact⟨rfl,ha.str⟩
   split
   ·exact⟨rfl,ha.str⟩
   split
   ·obtain⟨e1,e2⟩:=u7 iv iv' ih (s.length+2) (s'.length+2) true [] _ _ ha (jO s ha.rs) (jO s' ha.qs)
    simp only
    rw[e1]
    exact⟨rfl,e2.expect _⟩
   split
   ·obtain⟨e1,e2⟩:=Bf iv iv' ih (s.length+2) (s'.length+2) true [] [] _ _ ha (jO s ha.rs) (jO s' ha.qs)
    simp only
    rw[e1]
    exact⟨rfl,e2.expect _⟩
   ·exact Cr ih ha ⟨k1,k2,k3,k4,k5,k6,k7⟩ d
theorem Str.finish {R Q:Rd}(h:Str R Q):(dR R).e=(dR Q).e:=by
 unfold dR
 by_cases h0:R.e=0
 ·have hk:=(h.k h0).1
  rw[<- h.e,<- hk]
  split
  ·have:=(h.fail (i:=R.now.pos) (j:=Q.now.pos) (e:=13) (by decide)).e
   exact this
  ·exact h.e
 ·rw[if_neg (fun q=>h0 q.1),if_neg (fun q=>h0 (by rw[h.e];exact q.1))]
  exact h.e
theorem BN {s s':List UInt8}(hs:s.length<=65536)(hs':s'.length<=65536)(h:Str (aY s) (aY s')):(eD s).1=(eD s').1/\(eD s).2.2=(eD s').2.2:=by
 have h2:Two s s' (aY s) (aY s'):=⟨d9 s,di s,fK s,d9 s',di s',fK s',h⟩
 obtain⟨e1,e2⟩:=kM hs hs' 8 0 _ _ h2
 have hf:=e2.finish
 unfold eD Q9
 rw[<- e1,<- hf]
 split
 ·split
  ·exact⟨rfl,rfl⟩
  split
  ·exact⟨rfl,rfl⟩
  ·exact⟨rfl,rfl⟩
 ·exact⟨rfl,rfl⟩
def G9:List (List UInt8):=[[98,111,111,108],[105,110,116],[100,101,99,105,109,97,108],[116,101,120,116],[98,121,116,101,115],[100,97,116,101],[116,105,109,101],[108,105,115,116],[114,101,99,111,114,100],[118,97,114,105,97,110,116]]
def CU:Int->List (List UInt8)->List UInt8->Int
 | _,[],_=>0
 | k,w::r,t=>if w=t then k else CU (k+1) r t
def bt (t:List UInt8):Int:=CU 1 G9 t
def ce:Typ:=.mk 0 0 0 0 [] [] []
def cm (R:Rd):Int×Rd:=
 let p:=bi R 2
 (p.1.num,if p.2.e=0/\p.1.dec=true then aP p.2 p.1.pos 13 else p.2)
def mB (sc:Int)(R:Rd):Int×Rd:=
 let p:=bi R 2
 (p.1.num,if p.2.e=0/\(p.1.exa=true\/¬ (p.1.sc:Int)=sc) then aP p.2 p.1.pos 13 else p.2)
def dF (b:Rd->Int×Rd)(R:Rd):(Int×Int)×Rd:=
 let p:=b R
 let q:=b (aq p.2 [46,46])
 ((p.1,q.1),q.2)
def qT (R:Rd):List UInt8×Rd:=dm (cm R).2
def oP (R:Rd):Bool×Rd:=bp (qT R).2 [63]
def gU (kind:Rd->Typ×Rd)(R:Rd):Typ×Rd:=kind (aq (oP R).2 [58])
def zx (kind:Rd->Typ×Rd)(R:Rd):Rd:=if isT (gU kind R).2 [61]=true/\(oP R).1=true then aP (gU kind R).2 (gU kind R).2.now.pos 13 else (gU kind R).2
def mG (kind:Rd->Typ×Rd)(R:Rd):Bool×Rd:=bp (zx kind R) [61]
def pl (kind:Rd->Typ×Rd)(val:Rd->Val×Rd)(R:Rd):TFd×Rd:=
 if (mG kind R).1=true then (.mk (cm R).1 (qT R).1 3 (gU kind R).1 [(val (mG kind R).2).1],(val (mG kind R).2).2)
 else (.mk (cm R).1 (qT R).1 (if (oP R).1=true then 2 else 1) (gU kind R).1 [],(mG kind R).2)
def gq (fld:Rd->TFd×Rd):Nat->Bool->List TFd->Rd->List TFd×Rd
 | 0,_,l,R=>(l,R)
 | k+1,first,l,R=>
   if R.e=0 then
    if first=true then
     let p:=fld R
     gq fld k false (l++[p.1]) p.2
    else if 0<l.length then
     let q:=bp R [44]
     if q.1=true then
      let p:=fld q.2
      gq fld k false (l++[p.1]) p.2
     else (l,q.2)
    else (l,R)
   else (l,R)
def gG:Nat->Bool->List (List UInt8)->Rd->List (List UInt8)×Rd
 | 0,_,l,R=>(l,R)
 | k+1,first,l,R=>
   if R.e=0 then
    if first=true then
     let p:=bi R 3
     gG k false (l++[p.1.bytes]) p.2
    else
     let q:=bp R [124]
     if q.1=true then
      let p:=bi q.2 3
      gG k false (l++[p.1.bytes]) p.2
     else (l,q.2)
   else (l,R)
def bX (kind:Rd->Typ×Rd)(val:Rd->Val×Rd)(k:Int)(R:Rd):Typ×Rd:=
 if k=3 then
  let a:=cm R
  let b:=dF (mB a.1) (aq a.2 [44])
  (.mk 3 b.1.1 b.1.2 a.1 [] [] [],b.2)
 else if k=6 then
  let b:=dF (fun R=>aO R bz) R
  (.mk 6 b.1.1 b.1.2 0 [] [] [],b.2)
 else if k=7 then
  let b:=dF (fun R=>aO R br) R
  (.mk 7 b.1.1 b.1.2 0 [] [] [],b.2)
 else if k=9\/k=10 then
  let p:=gq (pl kind val) (R.s.length+3) (!isT R [41]) [] R
  (.mk k 0 0 0 [] [] p.1,p.2)
 else if k=4/\R.e=0/\R.now.kind=3 then
  let p:=gG (R.s.length+3) true [] R
  (.mk 4 0 0 0 p.1 [] [],p.2)
 else
  let b:=dF cm R
  if k=8 then
   let p:=kind (aq b.2 [44])
   (.mk 8 b.1.1 b.1.2 0 [] [p.1] [],p.2)
  else (.mk k b.1.1 b.1.2 0 [] [] [],b.2)
def cU (val:Rd->Val×Rd):Nat->Rd->Typ×Rd
 | f,R=>
   if R.e=0 then
    if R.now.kind≠1 then (ce,aP R R.now.pos 13)
    else match f with
     | 0=>(ce,aP R R.now.pos 23)
     | f+1=>
       if bt R.now.text=0 then (ce,aP (aT R) R.now.pos 13)
       else if bt R.now.text=1 then (.mk 1 0 0 0 [] [] [],aT R)
       else
        let p:=bX (cU val f) val (bt R.now.text) (aq (aT R) [40])
        (p.1,aq p.2 [41])
   else (ce,R)
def zm (kind:Rd->Typ×Rd)(s:List UInt8):Prop:=
 ∀ R,OkR R->OkT R->R.s=s->(kind R).1.ok/\bY R (kind R).2/\((kind R).2.e=0->R.now.pos<(kind R).2.now.pos)
theorem il {R:Rd}{k:Int}(hR:OkR R)(hT:OkT R)(hk:k≠0):(bi R k).2.e=0->R.now.pos<(bi R k).2.now.pos:=by
 intro he
 by_cases h0:R.e=0
 ·by_cases hx:R.now.kind=k
  ·rw[kP h0 hx] at he ⊢
   exact (aQ hR hT).2 he (by rw[hx];exact hk)
  ·rw[take_2 h0 hx] at he
   exact absurd he (bn (by decide))
 ·rw[take_3 h0] at he
  exact absurd he h0
theorem ug {R:Rd}{k:Int}(hT:OkT R):I64 (bi R k).1.num/\(bi R k).1.sc<=100000:=by
 by_cases h0:R.e=0
 ·by_cases hx:R.now.kind=k
  ·rw[kP h0 hx];refine⟨(hT h0).1,?_⟩;show R.now.sc<=100000;have:=(hT h0).2.1;omega
  ·rw[take_2 h0 hx];exact⟨bw,by simp⟩
 ·rw[take_3 h0];exact⟨bw,by simp⟩
theorem bF {R:Rd}(h:OkR R)(ht:OkT R):bY R (cm R).2/\I64 (cm R).1/\((cm R).2.e=0->R.now.pos<(cm R).2.now.pos):=by
 have h1:=cE (k:=2) h ht
 have h2:=il (k:=2) h ht (by decide)
 have h3:=ug (R:=R) (k:=2) ht
 unfold cm
 simp only
 refine⟨?_,h3.1,?_⟩
 ·split
  ·exact h1.trans (bj (by decide))
  ·exact h1
 ·split
  ·exact fun q=>absurd q (bn (by decide))
  ·exact h2
theorem oe {R:Rd}(sc:Int)(h:OkR R)(ht:OkT R):bY R (mB sc R).2/\I64 (mB sc R).1:=by
 have h1:=cE (k:=2) h ht
 have h3:=ug (R:=R) (k:=2) ht
 unfold mB
 simp only
 refine⟨?_,h3.1⟩
 split
 ·exact h1.trans (bj (by decide))
 ·exact h1
theorem cu {b:Rd->Int×Rd}(hb:∀ R,OkR R->OkT R->bY R (b R).2/\I64 (b R).1){R:Rd}(h:OkR R)(ht:OkT R):bY R (dF b R).2/\I64 (dF b R).1.1/\I64 (dF b R).1.2:=by
 have h1:=hb R h ht
 have h2:=h1.1.trans (aG (t:=[46,46]) h1.1.1 h1.1.2.1)
 have h3:=hb _ h2.1 h2.2.1
 exact⟨h2.trans h3.1,h1.2,h3.2⟩
theorem kR {R:Rd}{t:List UInt8}(h:OkR R)(ht:OkT R):bY R (bp R t).2/\((bp R t).1=true->R.e=0):=by
 unfold bp
 split
 ·rename_i hi
  refine⟨(aQ h ht).1,fun _=>?_⟩
  unfold isT at hi
  simp only[Bool.and_eq_true,decide_eq_true_eq] at hi
  exact hi.1.1
 ·exact⟨.refl h ht,fun q=>by cases q⟩
