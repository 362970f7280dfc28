/- A part of the proof. -/
import Derived.Test.YtbojpfpliibfbaaGreatDoorEnRSb
set_option maxHeartbeats 16000000
set_option maxRecDepth 100000
set_option linter.unusedVariables false
set_option linter.unusedSimpArgs false
-- many steps
namespace Go.Proofs.YtbojpfpliibfbaaGreatDoor
open Go Go.Ab
attribute [local irreducible] vc
def G9:Nat->Val->Prop
 | 0,_=>False
 | n+1,v=>(bI v=0/\aq v=true)/\∀ x∈bk v,G9 n x
theorem sI:∀ (xs:List (Int×Val)) (i:Nat),jx i xs=0->∀ q∈xs,∃ j,bg j q=0
 | [],_,_,_,h=>by cases h
 | x::r,i,h,q,hq=>by
   rw[jx] at h
   by_cases h0:bg i x=0
   ·rw[if_pos h0] at h
    rcases List.mem_cons.1 hq with rfl | hq
    ·exact⟨i,h0⟩
    ·exact sI r (i+1) h q hq
   ·rw[if_neg h0] at h;exact absurd h h0
theorem tD {j:Nat}{q:Int×Val}(h:bg j q=0):bI q.2=0/\aq q.2=true:=by
 unfold bg at h
 split at h
 ·cases h
 split at h
 ·cases h
 split at h
 ·cases h
 split at h
 ·cases h
 split at h
 ·cases h
 ·rename_i hu
  exact⟨h,by simpa using hu⟩
theorem wL:∀ (n:Nat) (lv:Int) (v:Val),dA n v->(∀ q∈dj n lv v,bI q.2=0/\aq q.2=true)->G9 n v
 | 0,_,_,hd,_=>hd.elim
 | n+1,lv,v,hd,h=>by
   simp only[dj,List.mem_cons,List.mem_flatMap] at h
   refine⟨h (lv,v) (.inl rfl),fun x hx=>wL n (Go.RowKit.wrap64 (lv+1)) x (hd x hx) fun q hq=>h q (.inr ⟨x,hx,hq⟩)⟩
theorem rg {n:Nat}{v:Val}(hd:dA n v)(h:jx 0 (dj n 1 v)=0):G9 n v:=
 wL n 1 v hd fun q hq=>by obtain⟨j,hj⟩:=sI _ _ h q hq;exact tD hj
noncomputable def accB (n:Nat)(t:Typ)(v:Val):Bool:=decide (GI v=0)&&bw n t v
theorem vV (n:Nat)(t:Typ)(v:Val)(hv:v.ok)(hP:GI v=0->ou n t v):am Tryz.prog az 180 [t.pv,v.pv] (.bool (accB n t v)):=by
 have hc:=Jr v hv
 simp only[accB]
 generalize GI v=z at hc hP ⊢
 by_cases hz:z=0
 ·have hh:=Gu n t v (hP hz)
  subst hz
  generalize bw n t v=b at hh ⊢
  obtain⟨k,m,M,s,w,e,f⟩:=t
  obtain⟨vk,vn,vs,vt,vl,vf⟩:=v
  simp only[Typ.pv_mk,Val.pv_mk] at hc hh
  refine am.intro KB.2 (by simp[KB]) ?_
  simp(disch:=try exact dI) only[KB,Typ.pv_mk,Val.pv_mk,push_cast,seval]
  refine ab.pure hc rfl ?_
  refine zgZ ?_
  refine ab.pure hh rfl ?_
  exact qsZ
 ·rw[decide_eq_false hz,Bool.false_and]
  obtain⟨k,m,M,s,w,e,f⟩:=t
  obtain⟨vk,vn,vs,vt,vl,vf⟩:=v
  simp only[Typ.pv_mk,Val.pv_mk] at hc
  refine am.intro KB.2 (by simp[KB]) ?_
  simp(disch:=try exact dI) only[KB,Typ.pv_mk,Val.pv_mk,push_cast,seval]
  refine ab.pure hc rfl ?_
  simp(disch:=try exact dI) only[hz,push_cast,seval]
noncomputable def gV (n:Nat):TFd->Bool
 | .mk _ _ nd t d=>decide (nd=3)&&!(qA (accB n t) d)
def tyV:Nat->Typ->Prop
 | 0,_=>False
 | n+1,.mk k m M s w e f=>bm (.mk k m M s w e f)=0/\(k=8->∀ x∈e,tyV n x)/\(k=9\/k=10->∀ g∈f,tyV n g.typ/\(k=9->gV n g=false))
theorem bu {k m M s:Int}{w:List (List UInt8)}{e:List Typ}{f:List TFd}(h:bm (.mk k m M s w e f)=0):inB k 1 10=true/\aD k m M s w=0/\aJ k e.length f.length=0/\aC k [] f=0:=by
 rw[bm] at h
 by_cases a:inB k 1 10=false
 ·rw[if_pos a] at h;exact absurd h (by decide)
 rw[if_neg a] at h
 by_cases b:aY k (.mk k m M s w e f)=true
 ·rw[if_pos b] at h;exact absurd h (by decide)
 rw[if_neg b] at h
 by_cases c:aD k m M s w=0
 ·rw[if_neg (fun hh=>hh c)] at h
  by_cases d:aJ k e.length f.length=0
  ·rw[if_neg (fun hh=>hh d)] at h
   exact⟨by simpa using a,c,d,h⟩
  ·rw[if_pos d] at h;exact absurd h d
 ·rw[if_pos c] at h;exact absurd h c
theorem yL {k m M s:Int}{w:List (List UInt8)}{e:List Typ}{f:List TFd}(h:bm (.mk k m M s w e f)=0)(hk:¬ k=3):s=0:=by
 rw[bm] at h
 by_cases a:inB k 1 10=false
 ·rw[if_pos a] at h;exact absurd h (by decide)
 rw[if_neg a] at h
 by_cases b:aY k (.mk k m M s w e f)=true
 ·rw[if_pos b] at h;exact absurd h (by decide)
 have b':aY k (.mk k m M s w e f)=false:=by simpa using b
 simp only[aY,aw,Bool.or_eq_false_iff] at b'
 obtain⟨_,b2,_⟩:=b'
 rw[decide_eq_false hk] at b2
 simpa using b2
theorem jp {m M s:Int}{w:List (List UInt8)}{e:List Typ}{f:List TFd}(h:bm (.mk 8 m M s w e f)=0):∃ x,e=[x]:=by
 have h1:=(bu h).2.2.1
 match e,h1 with
 | [],h1=>simp[aJ] at h1
 | [x],_=>exact⟨x,rfl⟩
 | x::y::r,h1=>simp[aJ] at h1
theorem lk {t:Typ}{nm:List UInt8}{g:TFd}(h:bz t nm=some g):(t.kind=9\/t.kind=10)/\g∈t.fields:=by
 unfold bz at h
 split at h
 ·rename_i hk;exact⟨hk,List.mem_of_find?_eq_some h⟩
 ·cases h
theorem CS {v:Val}(hk:v.kind=10)(h:bI v=0):∃ y r,v.lst=y::r:=by
 obtain⟨vk,vn,vs,vt,vl,vf⟩:=v
 simp only[Val.kind] at hk
 subst hk
 cases vl with
 | cons y r=>exact⟨y,r,rfl⟩
 | nil=>
   simp only[bI,show ¬ (10:Int)=1 by decide,show ¬ (10:Int)=2 by decide,show ¬ (10:Int)=3 by decide,show ¬ (10:Int)=4 by decide,show ¬ (10:Int)=5 by decide,show ¬ (10:Int)=6 by decide,show ¬ (10:Int)=7 by decide,show ¬ (10:Int)=8 by decide,show ¬ (10:Int)=9 by decide,if_false,if_true,List.length_nil] at h
   split at h<;>exact absurd h (by decide)
theorem kh:∀ (n m:Nat) (t:Typ) (v:Val),tyV n t->t.ok->G9 m v->v.ok->ou n t v
 | 0,_,_,_,h,_,_,_=>h.elim
 | _+1,0,_,_,_,_,h,_=>h.elim
 | n+1,m+1,t,v,h1,h2,h3,h4=>by
   have hv:=h4
   obtain⟨⟨hr,hu⟩,hp⟩:=h3
   obtain⟨N,hsm⟩:=mr t h2
   have hk8:v.kind=8->∀ y∈v.lst,G9 m y:=fun hk y hy=>hp y (by rw[cj (.inl hk)];exact hy)
   have hk10:v.kind=10->∀ y∈v.lst,G9 m y:=fun hk y hy=>hp y (by rw[cj (.inr hk)];exact hy)
   have hk9:v.kind=9->∀ x∈v.fields,G9 m x.value:=fun hk x hx=>hp x.value (by rw[dn hk];exact List.mem_map_of_mem hx)
   obtain⟨k,mn,M,s,w,e,f⟩:=t
   simp only[tyV] at h1
   rw[Typ.ok_mk] at h2
   obtain⟨ho,ht8,ht9⟩:=h1
   obtain⟨_,_,_,_,t1,_,_,t5,_,t6⟩:=h2
   have hvl:v.lst.length<=9000000000000/\v.fields.length<=9000000000000/\(∀ x∈v.lst,x.ok)/\∀ x∈v.fields,x.value.ok:=by
    obtain⟨vk,vn,vs,vt,vl,vf⟩:=v
    rw[Val.ok_mk] at h4
    obtain⟨_,_,_,_,q1,q2,q3,q4⟩:=h4
    refine⟨by simp only[Val.lst];omega,by simp only[Val.fields];omega,q2,fun x hx=>?_⟩
    have:=q4 x hx
    obtain⟨nm,y⟩:=x
    rw[Fld.ok_mk] at this
    exact this.2
   obtain⟨hvl,hvf,hl,hf⟩:=hvl
   have hgt:∀ g∈f,g.typ.ok:=fun g hg=>by
    have:=t6 g hg
    obtain⟨a1,a2,a3,a4,a5⟩:=g
    rw[TFd.ok_mk] at this
    exact this.2.2.2.1
   have hkk:inB k 1 10=true:=(bu ho).1
   refine⟨⟨N,hsm⟩,by simpa[inB,Typ.kind] using hkk,by simp only[Typ.words];omega,hv,hvl,hvf,fun hk=>⟨?_,?_,?_,?_⟩⟩
   ·intro h2
    simp only[Typ.kind] at h2 hk
    have hs:=yL ho (by omega)
    obtain⟨vk,vn,vs,vt,vl,vf⟩:=v
    simp only[Val.kind] at hk
    subst hk
    simp only[aq,Bool.and_eq_true,Bool.or_eq_true,decide_eq_true_eq] at hu
    simp only[Val.scale,Typ.scale]
    omega
   ·intro h8 y hy
    simp only[Typ.kind] at h8 hk
    subst h8
    obtain⟨x,rfl⟩:=jp ho
    exact⟨x,[],rfl,kh n m x y (ht8 rfl x (List.mem_cons_self ..)) (t5 x (List.mem_cons_self ..)) (hk8 hk y hy) (hl y hy)⟩
   ·intro h10 g hg
    simp only[Typ.kind] at h10 hk
    subst h10
    obtain⟨_,hgm⟩:=lk hg
    simp only[Typ.fields] at hgm
    obtain⟨y,r,hy⟩:=CS hk hr
    have hym:y∈v.lst:=by rw[hy];exact List.mem_cons_self ..
    exact⟨y,r,hy,kh n m g.typ y (ht9 (.inr rfl) g hgm).1 (hgt g hgm) (hk10 hk y hym) (hl y hym)⟩
   ·intro h9 x hx g hg
    simp only[Typ.kind] at h9 hk
    subst h9
    obtain⟨_,hgm⟩:=lk hg
    simp only[Typ.fields] at hgm
    exact kh n m g.typ x.value (ht9 (.inl rfl) g hgm).1 (hgt g hgm) (hk9 hk x hx) (hf x hx)
end Go.Proofs.YtbojpfpliibfbaaGreatDoor
-- many steps
namespace Go.Proofs.YtbojpfpliibfbaaGreatDoor
open Go Go.Ab
attribute [local irreducible] vc
def da (rec:Int->Typ->Int×Int):Int->List Typ->Int×Int
 | l,[]=>(0,l)
 | l,t::r=>if (rec l t).1=0 then da rec (rec l t).2 r else rec l t
noncomputable def cz (n:Nat)(rec:Int->Typ->Int×Int):Int->List TFd->Int×Int
 | l,[]=>(0,l)
 | l,g::r=>if (rec l g.typ).1=0 then (if gV n g=true then (18,(rec l g.typ).2) else cz n rec (rec l g.typ).2 r) else rec l g.typ
noncomputable def ci (δ:Int):Nat->Int->Typ->Int×Int
 | 0,l,_=>if l=0 then (9,0) else (23,l - δ)
 | n+1,l,.mk k m M s w e f=>if l=0 then (9,0) else if bm (.mk k m M s w e f)=0 then (if k=9 then cz n (ci δ n) (l - 1) f else da (ci δ n) (l - 1) (bP (.mk k m M s w e f))) else (bm (.mk k m M s w e f),l - 1)
theorem uL {rec:Int->Typ->Int×Int}{ps:List Typ}{i:Nat}{t:Typ}(h:ps[i]? = some t)(l:Int):da rec l (ps.drop i)=if (rec l t).1=0 then da rec (rec l t).2 (ps.drop (i+1)) else rec l t:=by
 have hi:=(List.getElem?_eq_some_iff.1 h).1
 have he:ps[i]=t:=(List.getElem?_eq_some_iff.1 h).2
 rw[List.drop_eq_getElem_cons hi,he,da]
theorem lL {n:Nat}{rec:Int->Typ->Int×Int}{ps:List TFd}{i:Nat}{g:TFd}(h:ps[i]? = some g)(l:Int):cz n rec l (ps.drop i)=if (rec l g.typ).1=0 then (if gV n g=true then (18,(rec l g.typ).2) else cz n rec (rec l g.typ).2 (ps.drop (i+1))) else rec l g.typ:=by
 have hi:=(List.getElem?_eq_some_iff.1 h).1
 have he:ps[i]=g:=(List.getElem?_eq_some_iff.1 h).2
 rw[List.drop_eq_getElem_cons hi,he,cz]
theorem kf {rec:Int->Typ->Int×Int}:∀ (ps:List Typ) (l:Int),(da rec l ps).1=0->∀ t∈ps,∃ l,(rec l t).1=0
 | [],_,_,_,h=>by cases h
 | x::r,l,h,t,ht=>by
   rw[da] at h
   by_cases h0:(rec l x).1=0
   ·rw[if_pos h0] at h
    rcases List.mem_cons.1 ht with rfl | ht
    ·exact⟨l,h0⟩
    ·exact kf r _ h t ht
   ·rw[if_neg h0] at h;exact absurd h h0
theorem ox {n:Nat}{rec:Int->Typ->Int×Int}:∀ (ps:List TFd) (l:Int),(cz n rec l ps).1=0->∀ g∈ps,∃ l,(rec l g.typ).1=0
 | [],_,_,_,h=>by cases h
 | x::r,l,h,t,ht=>by
   rw[cz] at h
   by_cases h0:(rec l x.typ).1=0
   ·rw[if_pos h0] at h
    by_cases hd:gV n x=true
    ·rw[if_pos hd] at h;exact absurd h (show ¬ (18:Int)=0 by decide)
    ·rw[if_neg hd] at h
     rcases List.mem_cons.1 ht with rfl | ht
     ·exact⟨l,h0⟩
     ·exact ox r _ h t ht
   ·rw[if_neg h0] at h;exact absurd h h0
theorem lP {n:Nat}{rec:Int->Typ->Int×Int}:∀ (ps:List TFd) (l:Int),(cz n rec l ps).1=0->∀ g∈ps,gV n g=false
 | [],_,_,_,h=>by cases h
 | x::r,l,h,t,ht=>by
   rw[cz] at h
   by_cases h0:(rec l x.typ).1=0
   ·rw[if_pos h0] at h
    by_cases hd:gV n x=true
    ·rw[if_pos hd] at h;exact absurd h (show ¬ (18:Int)=0 by decide)
    ·rw[if_neg hd] at h
     rcases List.mem_cons.1 ht with rfl | ht
     ·simpa using hd
     ·exact lP r _ h t ht
   ·rw[if_neg h0] at h;exact absurd h h0
theorem fv {δ:Int}:∀ (n:Nat) (l:Int) (t:Typ),(ci δ n l t).1=0->tyV n t
 | 0,l,_,h=>by
   rw[ci] at h
   split at h<;>cases h
 | n+1,l,.mk k m M s w e f,h=>by
   rw[ci] at h
   by_cases hl:l=0
   ·rw[if_pos hl] at h;cases h
   rw[if_neg hl] at h
   by_cases ho:bm (.mk k m M s w e f)=0
   ·rw[if_pos ho] at h
    refine⟨ho,fun h8 x hx=>?_,fun h9 g hg=>?_⟩
    ·subst h8
     rw[if_neg (by decide)] at h
     obtain⟨l',hl'⟩:=kf _ _ h x hx
     exact fv n l' x hl'
    ·by_cases hk:k=9
     ·subst hk
      rw[if_pos rfl] at h
      obtain⟨l',hl'⟩:=ox _ _ h g hg
      exact⟨fv n l' g.typ hl',fun _=>lP _ _ h g hg⟩
     ·have hk10:k=10:=by omega
      subst hk10
      rw[if_neg (by decide)] at h
      obtain⟨l',hl'⟩:=kf _ _ h g.typ (List.mem_map_of_mem hg)
      exact⟨fv n l' g.typ hl',fun h=>absurd h hk⟩
   ·rw[if_neg ho] at h;exact absurd h ho
def B2 (rec:Int->Typ->Int×Int):Prop:=∀ t l,0<=l->l<=4096->0<=(rec l t).2/\(rec l t).2<=4096
theorem lG {rec:Int->Typ->Int×Int}(h:B2 rec):∀ (ps:List Typ) (l:Int),0<=l->l<=4096->0<=(da rec l ps).2/\(da rec l ps).2<=4096
 | [],l,h1,h2=>⟨h1,h2⟩
 | x::r,l,h1,h2=>by
   have h3:=h x l h1 h2
   rw[da]
   split
   ·exact lG h r _ h3.1 h3.2
   ·exact h3
theorem lN {n:Nat}{rec:Int->Typ->Int×Int}(h:B2 rec):∀ (ps:List TFd) (l:Int),0<=l->l<=4096->0<=(cz n rec l ps).2/\(cz n rec l ps).2<=4096
 | [],l,h1,h2=>⟨h1,h2⟩
 | x::r,l,h1,h2=>by
   have h3:=h x.typ l h1 h2
   rw[cz]
   split
   ·split
    ·exact h3
    ·exact lN h r _ h3.1 h3.2
   ·exact h3
theorem fw {δ:Int}(hδ:0<=δ/\δ<=1):∀ n,B2 (ci δ n)
 | 0,t,l,h1,h2=>by
   rw[ci]
   split
   ·simp
   ·simp only;omega
 | n+1,.mk k m M s w e f,l,h1,h2=>by
   rw[ci]
   split
   ·simp
   split
   ·split
    ·exact lN (fw hδ n) f (l - 1) (by omega) (by omega)
    ·exact lG (fw hδ n) _ (l - 1) (by omega) (by omega)
   ·simp only;omega
def J5 (p q:Int->Typ->Int×Int):Prop:=∀ l t,(p l t).1=(q l t).1/\((p l t).1=0->p l t=q l t)
theorem lF {p q:Int->Typ->Int×Int}(h:J5 p q):∀ (ps:List Typ) (l:Int),(da p l ps).1=(da q l ps).1/\((da p l ps).1=0->da p l ps=da q l ps)
 | [],l=>⟨rfl,fun _=>rfl⟩
 | x::r,l=>by
   obtain⟨h1,h2⟩:=h l x
   rw[da,da]
   by_cases h0:(p l x).1=0
   ·rw[if_pos h0,if_pos (h1.symm.trans h0),h2 h0]
    exact lF h r _
   ·rw[if_neg h0,if_neg (fun hh=>h0 (h1.trans hh))]
    exact⟨h1,fun q=>absurd q h0⟩
theorem lM {n:Nat}{p q:Int->Typ->Int×Int}(h:J5 p q):∀ (ps:List TFd) (l:Int),(cz n p l ps).1=(cz n q l ps).1/\((cz n p l ps).1=0->cz n p l ps=cz n q l ps)
 | [],l=>⟨rfl,fun _=>rfl⟩
 | x::r,l=>by
   obtain⟨h1,h2⟩:=h l x.typ
   rw[cz,cz]
   by_cases h0:(p l x.typ).1=0
   ·rw[if_pos h0,if_pos (h1.symm.trans h0),h2 h0]
    by_cases hd:gV n x=true
    ·rw[if_pos hd,if_pos hd];exact⟨rfl,fun _=>rfl⟩
    ·rw[if_neg hd,if_neg hd];exact lM h r _
   ·rw[if_neg h0,if_neg (fun hh=>h0 (h1.trans hh))]
    exact⟨h1,fun q=>absurd q h0⟩
theorem kK (δ ε:Int):∀ n,J5 (ci δ n) (ci ε n)
 | 0,l,t=>by
   rw[ci,ci]
   split
   ·exact⟨rfl,fun _=>rfl⟩
   ·exact⟨rfl,fun h=>by cases h⟩
 | n+1,l,.mk k m M s w e f=>by
   rw[ci,ci]
   split
   ·exact⟨rfl,fun _=>rfl⟩
   split
   ·split
    ·exact lM (kK δ ε n) f _
    ·exact lF (kK δ ε n) _ _
   ·exact⟨rfl,fun _=>rfl⟩
theorem bJ {k:Int}:∀ (f b:List TFd),aC k b f=0->∀ g∈f,∃ b,bE k b g=0
 | [],_,_,_,h=>by cases h
 | x::r,b,h,g,hg=>by
   rw[aC] at h
   by_cases h0:bE k b x=0
   ·rw[if_pos h0] at h
    rcases List.mem_cons.1 hg with rfl | hg
    ·exact⟨b,h0⟩
    ·exact bJ r _ h g hg
   ·rw[if_neg h0] at h;exact absurd h h0
theorem fK {k:Int}{b:List TFd}{n:Int}{nm:List UInt8}{t:Typ}{d:List Val}(h:bE k b (.mk n nm 3 t d)=0):∃ x r,d=x::r:=by
 cases d with
 | cons x r=>exact⟨x,r,rfl⟩
 | nil=>
   simp only[bE,List.length_nil,true_and,if_true] at h
   repeat' split at h
   all_goals first | exact absurd h (by decide) | skip
end Go.Proofs.YtbojpfpliibfbaaGreatDoor
-- many steps
namespace Go.Proofs.YtbojpfpliibfbaaGreatDoor
open Go Go.Ab
attribute [local irreducible] vc
def Kc (n:Nat):Prop:=∀ (t:Typ) (d l:Int),t.ok->d+n=9->0<=l->l<=4096 ->
 bn Tryz.prog az 1 123 [.pv t.pv,.pv (.int .i64 d),.ptr 0 0] [.cells 3 true [.pv (.int .i64 l)]] (.pv (.int .i64 (ci 0 n l t).1)) [.cells 3 true [.pv (.int .i64 (ci 0 n l t).2)]]
theorem dt {g:TFd}(h:g.ok):g.typ.ok/\∀ v∈g.dflt,v.ok:=by
 obtain⟨a1,a2,a3,a4,a5⟩:=g
 rw[TFd.ok_mk] at h
 exact⟨h.2.2.2.1,h.2.2.2.2.2⟩
theorem zd {k m M s:Int}{w:List (List UInt8)}{e:List Typ}{f:List TFd}(h:(Typ.mk k m M s w e f).ok):am Tryz.prog az 178 [(Typ.mk k m M s w e f).pv] (.int .i64 (bm (.mk k m M s w e f)))/\am Tryz.prog az 179 [(Typ.mk k m M s w e f).pv] (.list ((bP (.mk k m M s w e f)).map Typ.pv))/\(∀ x∈bP (.mk k m M s w e f),x.ok)/\(bP (.mk k m M s w e f)).length<=9000000000000:=by
 rw[Typ.ok_mk] at h
 obtain⟨_,_,_,_,h1,h2,h3,h4,h5,h6⟩:=h
 refine⟨Lr m M s w e f k (fun x hx=>by have:=h2 x hx;omega) (by omega),Dx k m M s w e f (by omega),?_⟩
 by_cases h8:k=8
 ·rw[show bP (.mk k m M s w e f)=e from if_pos h8]
  exact⟨h4,by omega⟩
 ·by_cases h9:k=9\/k=10
  ·rw[show bP (.mk k m M s w e f)=f.map TFd.typ by simp only[bP];rw[if_neg h8,if_pos h9]]
   refine⟨fun x hx=>?_,by rw[List.length_map];omega⟩
   obtain⟨g,hg,rfl⟩:=List.mem_map.1 hx
   exact (dt (h6 g hg)).1
  ·rw[show bP (.mk k m M s w e f)=[] by simp only[bP];rw[if_neg h8,if_neg h9]]
   exact⟨fun x hx=>(by cases hx),by simp⟩
theorem Bj (t:Typ)(d l:Int)(hd:d=9)(hl:0<=l):bn Tryz.prog az 1 123 [.pv t.pv,.pv (.int .i64 d),.ptr 0 0] [.cells 3 true [.pv (.int .i64 l)]] (.pv (.int .i64 (ci 0 0 l t).1)) [.cells 3 true [.pv (.int .i64 (ci 0 0 l t).2)]]:=by
 subst hd
 rw[ci]
 obtain⟨k',m',M',s',w',e',f'⟩:=t
 simp only[Typ.pv_mk]
 by_cases h0:l=0
 ·subst h0
  rw[if_pos rfl]
  refine bn.intro ld.2 (by simp[ld]) ?_
  simp(disch:=try exact dI) only[ld,push_cast,seval]
  exact aL [] qsZ
 ·rw[if_neg h0]
  refine bn.intro ld.2 (by simp[ld]) ?_
  simp(disch:=try exact dI) only[ld,h0,Int.sub_zero,push_cast,seval]
  exact aL [] qsZ
theorem Bg (n:Nat)(t:Typ)(d:Int):bn Tryz.prog az 1 123 [.pv t.pv,.pv (.int .i64 d),.ptr 0 0] [.cells 3 true [.pv (.int .i64 0)]] (.pv (.int .i64 (ci 0 (n+1) 0 t).1)) [.cells 3 true [.pv (.int .i64 (ci 0 (n+1) 0 t).2)]]:=by
 obtain⟨k',m',M',s',w',e',f'⟩:=t
 rw[ci,if_pos rfl]
 simp only[Typ.pv_mk]
 refine bn.intro ld.2 (by simp[ld]) ?_
 simp(disch:=try exact dI) only[ld,push_cast,seval]
 exact aL [] qsZ
theorem Bh (n:Nat)(ih:Kc n)(k m M s:Int)(w:List (List UInt8))(e:List Typ)(f:List TFd)(d l:Int)(ht:(Typ.mk k m M s w e f).ok)(hdn:d+(n+1:Nat)=9)(hd:1<=d)(hl:0<=l)(hl2:l<=4096)(hl0:¬ l=0)(hk:¬ k=9) :
  bn Tryz.prog az 1 123 [.pv (Typ.mk k m M s w e f).pv,.pv (.int .i64 d),.ptr 0 0] [.cells 3 true [.pv (.int .i64 l)]] (.pv (.int .i64 (ci 0 (n+1) l (.mk k m M s w e f)).1)) [.cells 3 true [.pv (.int .i64 (ci 0 (n+1) l (.mk k m M s w e f)).2)]]:=by
 obtain⟨h143,h144,hpt,hpl⟩:=zd ht
 have hd8:¬ 8<d:=by omega
 rw[ci,if_neg hl0,if_neg hk]
 generalize bP (.mk k m M s w e f)=ps at *
 generalize bm (.mk k m M s w e f)=z at *
 simp only[Typ.pv_mk] at h143 h144 ⊢
 by_cases hz:z=0
 ·subst hz
  rw[if_pos rfl]
  obtain⟨R,hR⟩:∃ R,R=da (ci 0 n) (l - 1) ps:=⟨_,rfl⟩
  rw[<- hR]
  refine bn.intro ld.2 (by simp[ld]) ?_
  simp(disch:=try exact dI) only[ld,hl0,hd8,push_cast,seval]
  refine ab.pure h143 rfl ?_
  refine zgZ ?_
  refine ab.pure h144 rfl ?_
  refine zgZ ?_
  refine au ([]) (fun x:Nat×Int=>[(32,.pv (.int .i64 (x.1:Int)))]) (fun x=>[(0,.cells 3 true [.pv (.int .i64 x.2)])]) (fun x=>x.1<=ps.length/\R=da (ci 0 n) x.2 (ps.drop x.1)/\0<=x.2/\x.2<=4096) (fun x=>ps.length - x.1) ((0,l - 1)) ?_;intro e0 σ0 n0 h0;simp(disch:=try exact dI) only[push_cast,seval] at h0;obtain⟨rfl,rfl,rfl⟩:=h0;refine⟨?_,?_,?_⟩
  ·exact qsZ
  ·exact⟨by simp,by simpa using hR,by simp only;omega,by simp only;omega⟩
  rintro⟨i,L⟩ ⟨hi,hr,hL,hL2⟩
  simp only at hi hr hL hL2
  by_cases hlt:i<ps.length
  ·have hltI:(i:Int)<(ps.length:Int):=by omega
   obtain⟨x,hx⟩:∃ x,ps[i]? = some x:=⟨_,List.getElem?_eq_getElem hlt⟩
   have hxm:=List.mem_of_getElem? hx
   have hcall:=ih x (d+1) L (hpt x hxm) (by omega) hL hL2
   have hleft:=fw (δ:=0) (by decide) n x L hL hL2
   rw[uL hx] at hr
   obtain⟨⟨e1,e2⟩,he⟩:∃ q,q=ci 0 n L x:=⟨_,rfl⟩
   rw[<- he] at hcall hleft hr
   simp only at hcall hleft hr
   obtain⟨k',m',M',s',w',e',f'⟩:=x
   simp only[Typ.pv_mk] at hcall
   simp(disch:=try exact dI) only[hx,Option.map_some,Typ.pv_mk,ag,push_cast,seval]
   refine ab.lentK hcall [0] rfl qsZ qsZ ?_
   by_cases he0:e1=0
   ·subst he0
    rw[if_pos rfl] at hr
    simp(disch:=try exact dI) only[hk,push_cast,seval]
    exact⟨(i+1,e2),aM qsZ,⟨by simp only;omega,hr,by simp only;omega,by simp only;omega⟩,by simp only;omega⟩
   ·rw[if_neg he0] at hr
    subst hr
    simp(disch:=try exact dI) only[he0,push_cast,seval]
    exact aL [] qsZ
  ·obtain rfl:i=ps.length:=by omega
   rw[List.drop_length,da] at hr
   subst hr
   simp(disch:=try exact dI) only[Int.lt_irrefl,push_cast,seval]
   exact aL [] qsZ
 ·rw[if_neg hz]
  refine bn.intro ld.2 (by simp[ld]) ?_
  simp(disch:=try exact dI) only[ld,hl0,hd8,push_cast,seval]
  refine ab.pure h143 rfl ?_
  simp(disch:=try exact dI) only[hz,push_cast,seval]
  exact aL [] qsZ
end Go.Proofs.YtbojpfpliibfbaaGreatDoor
