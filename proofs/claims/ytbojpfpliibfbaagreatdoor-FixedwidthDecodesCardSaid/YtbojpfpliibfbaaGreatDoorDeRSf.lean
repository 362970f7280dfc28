/- A part of the proof. -/
import Derived.Test.YtbojpfpliibfbaaGreatDoorDeRSc
set_option maxHeartbeats 16000000
set_option maxRecDepth 100000
set_option linter.unusedVariables false
set_option linter.unusedSimpArgs false
namespace Go.Proofs.YtbojpfpliibfbaaGreatDoor
open Go Go.Ab
attribute [local irreducible] vc
def cH (rec:Int->Typ->Int×Int):Int->List Typ->Int×Int
 | l,[]=>(0,l)
 | l,t::r=>if (rec l t).1=0 then cH rec (rec l t).2 r else rec l t
noncomputable def ce (n:Nat)(rec:Int->Typ->Int×Int):Int->List TFd->Int×Int
 | l,[]=>(0,l)
 | l,g::r=>if (rec l g.typ).1=0 then (if gY n g=true then (18,(rec l g.typ).2) else ce n rec (rec l g.typ).2 r) else rec l g.typ
noncomputable def bS (δ:Int):Nat->Int->Typ->Int×Int
 | 0,l,_=>if l=0 then (9,0) else (23,l - δ)
 | n+1,l,.mk k m M s w e f=>if l=0 then (9,0) else if dr (.mk k m M s w e f)=0 then (if k=9 then ce n (bS δ n) (l - 1) f else cH (bS δ n) (l - 1) (bE (.mk k m M s w e f))) else (dr (.mk k m M s w e f),l - 1)
theorem wK {rec:Int->Typ->Int×Int}{ps:List Typ}{i:Nat}{t:Typ}(h:ps[i]? = some t)(l:Int):cH rec l (ps.drop i)=if (rec l t).1=0 then cH rec (rec l t).2 (ps.drop (i+1)) else rec l t:=by
 have hi:=(List.getElem?_eq_some_iff.1 h).1
 have he:ps[i]=t:=(List.getElem?_eq_some_iff.1 h).2
 rw[List.drop_eq_getElem_cons hi,he,cH]
theorem mz {n:Nat}{rec:Int->Typ->Int×Int}{ps:List TFd}{i:Nat}{g:TFd}(h:ps[i]? = some g)(l:Int):ce n rec l (ps.drop i)=if (rec l g.typ).1=0 then (if gY n g=true then (18,(rec l g.typ).2) else ce n rec (rec l g.typ).2 (ps.drop (i+1))) else rec l g.typ:=by
 have hi:=(List.getElem?_eq_some_iff.1 h).1
 have he:ps[i]=g:=(List.getElem?_eq_some_iff.1 h).2
 rw[List.drop_eq_getElem_cons hi,he,ce]
theorem kE {rec:Int->Typ->Int×Int}:∀ (ps:List Typ) (l:Int),(cH rec l ps).1=0->∀ t∈ps,∃ l,(rec l t).1=0
 | [],_,_,_,h=>by cases h
 | x::r,l,h,t,ht=>by
   rw[cH] at h
   by_cases h0:(rec l x).1=0
   ·rw[if_pos h0] at h
    rcases List.mem_cons.1 ht with rfl | ht
    ·exact⟨l,h0⟩
    ·exact kE r _ h t ht
   ·rw[if_neg h0] at h;exact absurd h h0
theorem pD {n:Nat}{rec:Int->Typ->Int×Int}:∀ (ps:List TFd) (l:Int),(ce n rec l ps).1=0->∀ g∈ps,∃ l,(rec l g.typ).1=0
 | [],_,_,_,h=>by cases h
 | x::r,l,h,t,ht=>by
   rw[ce] at h
   by_cases h0:(rec l x.typ).1=0
   ·rw[if_pos h0] at h
    by_cases hd:gY n x=true
    ·rw[if_pos hd] at h;exact absurd h (show ¬ (18:Int)=0 by decide)
    ·rw[if_neg hd] at h
     rcases List.mem_cons.1 ht with rfl | ht
     ·exact⟨l,h0⟩
     ·exact pD r _ h t ht
   ·rw[if_neg h0] at h;exact absurd h h0
theorem mD {n:Nat}{rec:Int->Typ->Int×Int}:∀ (ps:List TFd) (l:Int),(ce n rec l ps).1=0->∀ g∈ps,gY n g=false
 | [],_,_,_,h=>by cases h
 | x::r,l,h,t,ht=>by
   rw[ce] at h
   by_cases h0:(rec l x.typ).1=0
   ·rw[if_pos h0] at h
    by_cases hd:gY n x=true
    ·rw[if_pos hd] at h;exact absurd h (show ¬ (18:Int)=0 by decide)
    ·rw[if_neg hd] at h
     rcases List.mem_cons.1 ht with rfl | ht
     ·simpa using hd
     ·exact mD r _ h t ht
   ·rw[if_neg h0] at h;exact absurd h h0
theorem fh {δ:Int}:∀ (n:Nat) (l:Int) (t:Typ),(bS δ n l t).1=0->tyV n t
 | 0,l,_,h=>by
   rw[bS] at h
   split at h<;>cases h
 | n+1,l,.mk k m M s w e f,h=>by
   rw[bS] at h
   by_cases hl:l=0
   ·rw[if_pos hl] at h;cases h
   rw[if_neg hl] at h
   by_cases ho:dr (.mk k m M s w e f)=0
   ·rw[if_pos ho] at h
    refine⟨ho,fun h8 x hx=>?_,fun h9 g hg=>?_⟩
    ·subst h8
     rw[if_neg (by decide)] at h
     obtain⟨l',hl'⟩:=kE _ _ h x hx
     exact fh n l' x hl'
    ·by_cases hk:k=9
     ·subst hk
      rw[if_pos rfl] at h
      obtain⟨l',hl'⟩:=pD _ _ h g hg
      exact⟨fh n l' g.typ hl',fun _=>mD _ _ h g hg⟩
     ·have hk10:k=10:=by omega
      subst hk10
      rw[if_neg (by decide)] at h
      obtain⟨l',hl'⟩:=kE _ _ h g.typ (List.mem_map_of_mem hg)
      exact⟨fh n l' g.typ hl',fun h=>absurd h hk⟩
   ·rw[if_neg ho] at h;exact absurd h ho
def DM (rec:Int->Typ->Int×Int):Prop:=∀ t l,0<=l->l<=4096->0<=(rec l t).2/\(rec l t).2<=4096
theorem mq {rec:Int->Typ->Int×Int}(h:DM rec):∀ (ps:List Typ) (l:Int),0<=l->l<=4096->0<=(cH rec l ps).2/\(cH rec l ps).2<=4096
 | [],l,h1,h2=>⟨h1,h2⟩
 | x::r,l,h1,h2=>by
   have h3:=h x l h1 h2
   rw[cH]
   split
   ·exact mq h r _ h3.1 h3.2
   ·exact h3
theorem mB {n:Nat}{rec:Int->Typ->Int×Int}(h:DM rec):∀ (ps:List TFd) (l:Int),0<=l->l<=4096->0<=(ce n rec l ps).2/\(ce n rec l ps).2<=4096
 | [],l,h1,h2=>⟨h1,h2⟩
 | x::r,l,h1,h2=>by
   have h3:=h x.typ l h1 h2
   rw[ce]
   split
   ·split
    ·exact h3
    ·exact mB h r _ h3.1 h3.2
   ·exact h3
theorem fi {δ:Int}(hδ:0<=δ/\δ<=1):∀ n,DM (bS δ n)
 | 0,t,l,h1,h2=>by
   rw[bS]
   split
   ·simp
   ·simp only;omega
 | n+1,.mk k m M s w e f,l,h1,h2=>by
   rw[bS]
   split
   ·simp
   split
   ·split
    ·exact mB (fi hδ n) f (l - 1) (by omega) (by omega)
    ·exact mq (fi hδ n) _ (l - 1) (by omega) (by omega)
   ·simp only;omega
def LC (p q:Int->Typ->Int×Int):Prop:=∀ l t,(p l t).1=(q l t).1/\((p l t).1=0->p l t=q l t)
theorem mp {p q:Int->Typ->Int×Int}(h:LC p q):∀ (ps:List Typ) (l:Int),(cH p l ps).1=(cH q l ps).1/\((cH p l ps).1=0->cH p l ps=cH q l ps)
 | [],l=>⟨rfl,fun _=>rfl⟩
 | x::r,l=>by
   obtain⟨h1,h2⟩:=h l x
   rw[cH,cH]
   by_cases h0:(p l x).1=0
   ·rw[if_pos h0,if_pos (h1.symm.trans h0),h2 h0]
    exact mp h r _
   ·rw[if_neg h0,if_neg (fun hh=>h0 (h1.trans hh))]
    exact⟨h1,fun q=>absurd q h0⟩
theorem mA {n:Nat}{p q:Int->Typ->Int×Int}(h:LC p q):∀ (ps:List TFd) (l:Int),(ce n p l ps).1=(ce n q l ps).1/\((ce n p l ps).1=0->ce n p l ps=ce n q l ps)
 | [],l=>⟨rfl,fun _=>rfl⟩
 | x::r,l=>by
   obtain⟨h1,h2⟩:=h l x.typ
   rw[ce,ce]
   by_cases h0:(p l x.typ).1=0
   ·rw[if_pos h0,if_pos (h1.symm.trans h0),h2 h0]
    by_cases hd:gY n x=true
    ·rw[if_pos hd,if_pos hd];exact⟨rfl,fun _=>rfl⟩
    ·rw[if_neg hd,if_neg hd];exact mA h r _
   ·rw[if_neg h0,if_neg (fun hh=>h0 (h1.trans hh))]
    exact⟨h1,fun q=>absurd q h0⟩
theorem lk (δ ε:Int):∀ n,LC (bS δ n) (bS ε n)
 | 0,l,t=>by
   rw[bS,bS]
   split
   ·exact⟨rfl,fun _=>rfl⟩
   ·exact⟨rfl,fun h=>by cases h⟩
 | n+1,l,.mk k m M s w e f=>by
   rw[bS,bS]
   split
   ·exact⟨rfl,fun _=>rfl⟩
   split
   ·split
    ·exact mA (lk δ ε n) f _
    ·exact mp (lk δ ε n) _ _
   ·exact⟨rfl,fun _=>rfl⟩
theorem bq {k:Int}:∀ (f b:List TFd),be k b f=0->∀ g∈f,∃ b,cC k b g=0
 | [],_,_,_,h=>by cases h
 | x::r,b,h,g,hg=>by
   rw[be] at h
   by_cases h0:cC k b x=0
   ·rw[if_pos h0] at h
    rcases List.mem_cons.1 hg with rfl | hg
    ·exact⟨b,h0⟩
    ·exact bq r _ h g hg
   ·rw[if_neg h0] at h;exact absurd h h0
theorem fB {k:Int}{b:List TFd}{n:Int}{nm:List UInt8}{t:Typ}{d:List Val}(h:cC k b (.mk n nm 3 t d)=0):∃ x r,d=x::r:=by
 cases d with
 | cons x r=>exact⟨x,r,rfl⟩
 | nil=>
   simp only[cC,List.length_nil,true_and,if_true] at h
   repeat' split at h
   all_goals first | exact absurd h (by decide) | skip
def LO (n:Nat):Prop:=∀ (t:Typ) (d l:Int),t.ok->d+n=9->0<=l->l<=4096 ->
 bK Tryz.prog ap 1 123 [.pv t.pv,.pv (.int .i64 d),.ptr 0 0] [.cells 3 true [.pv (.int .i64 l)]] (.pv (.int .i64 (bS 0 n l t).1)) [.cells 3 true [.pv (.int .i64 (bS 0 n l t).2)]]
theorem cL {g:TFd}(h:g.ok):g.typ.ok/\∀ v∈g.dflt,v.ok:=by
 obtain⟨a1,a2,a3,a4,a5⟩:=g
 rw[TFd.ok_mk] at h
 exact⟨h.2.2.2.1,h.2.2.2.2.2⟩
theorem AU {k m M s:Int}{w:List (List UInt8)}{e:List Typ}{f:List TFd}(h:(Typ.mk k m M s w e f).ok):ak Tryz.prog ap 178 [(Typ.mk k m M s w e f).pv] (.int .i64 (dr (.mk k m M s w e f)))/\ak Tryz.prog ap 179 [(Typ.mk k m M s w e f).pv] (.list ((bE (.mk k m M s w e f)).map Typ.pv))/\(∀ x∈bE (.mk k m M s w e f),x.ok)/\(bE (.mk k m M s w e f)).length<=9000000000000:=by
 rw[Typ.ok_mk] at h
 obtain⟨_,_,_,_,h1,h2,h3,h4,h5,h6⟩:=h
 refine⟨Nr m M s w e f k (fun x hx=>by have:=h2 x hx;omega) (by omega) (by omega) (by omega),Fo k m M s w e f (by omega),?_⟩
 by_cases h8:k=8
 ·rw[show bE (.mk k m M s w e f)=e from if_pos h8]
  exact⟨h4,by omega⟩
 ·by_cases h9:k=9\/k=10
  ·rw[show bE (.mk k m M s w e f)=f.map TFd.typ by simp only[bE];rw[if_neg h8,if_pos h9]]
   refine⟨fun x hx=>?_,by rw[List.length_map];omega⟩
   obtain⟨g,hg,rfl⟩:=List.mem_map.1 hx
   exact (cL (h6 g hg)).1
  ·rw[show bE (.mk k m M s w e f)=[] by simp only[bE];rw[if_neg h8,if_neg h9]]
   exact⟨fun x hx=>(by cases hx),by simp⟩
theorem C0 (t:Typ)(d l:Int)(hd:d=9)(hl:0<=l):bK Tryz.prog ap 1 123 [.pv t.pv,.pv (.int .i64 d),.ptr 0 0] [.cells 3 true [.pv (.int .i64 l)]] (.pv (.int .i64 (bS 0 0 l t).1)) [.cells 3 true [.pv (.int .i64 (bS 0 0 l t).2)]]:=by
 subst hd
 rw[bS]
 obtain⟨k',m',M',s',w',e',f'⟩:=t
 simp only[Typ.pv_mk]
 by_cases h0:l=0
 ·subst h0
  rw[if_pos rfl]
  refine bK.intro lM.2 (by simp[lM]) ?_
  simp(disch:=try exact dI) only[lM,push_cast,seval]
  exact aJ [] qsZ
 ·rw[if_neg h0]
  refine bK.intro lM.2 (by simp[lM]) ?_
  simp(disch:=try exact dI) only[lM,h0,Int.sub_zero,push_cast,seval]
  exact aJ [] qsZ
theorem CX (n:Nat)(t:Typ)(d:Int):bK Tryz.prog ap 1 123 [.pv t.pv,.pv (.int .i64 d),.ptr 0 0] [.cells 3 true [.pv (.int .i64 0)]] (.pv (.int .i64 (bS 0 (n+1) 0 t).1)) [.cells 3 true [.pv (.int .i64 (bS 0 (n+1) 0 t).2)]]:=by
 obtain⟨k',m',M',s',w',e',f'⟩:=t
 rw[bS,if_pos rfl]
 simp only[Typ.pv_mk]
 refine bK.intro lM.2 (by simp[lM]) ?_
 simp(disch:=try exact dI) only[lM,push_cast,seval]
 exact aJ [] qsZ
theorem CY (n:Nat)(ih:LO n)(k m M s:Int)(w:List (List UInt8))(e:List Typ)(f:List TFd)(d l:Int)(ht:(Typ.mk k m M s w e f).ok)(hdn:d+(n+1:Nat)=9)(hd:1<=d)(hl:0<=l)(hl2:l<=4096)(hl0:¬ l=0)(hk:¬ k=9) :
  bK Tryz.prog ap 1 123 [.pv (Typ.mk k m M s w e f).pv,.pv (.int .i64 d),.ptr 0 0] [.cells 3 true [.pv (.int .i64 l)]] (.pv (.int .i64 (bS 0 (n+1) l (.mk k m M s w e f)).1)) [.cells 3 true [.pv (.int .i64 (bS 0 (n+1) l (.mk k m M s w e f)).2)]]:=by
 obtain⟨h143,h144,hpt,hpl⟩:=AU ht
 have hd8:¬ 8<d:=by omega
 rw[bS,if_neg hl0,if_neg hk]
 generalize bE (.mk k m M s w e f)=ps at *
 generalize dr (.mk k m M s w e f)=z at *
 simp only[Typ.pv_mk] at h143 h144 ⊢
 by_cases hz:z=0
 ·subst hz
  rw[if_pos rfl]
  obtain⟨R,hR⟩:∃ R,R=cH (bS 0 n) (l - 1) ps:=⟨_,rfl⟩
  rw[<- hR]
  refine bK.intro lM.2 (by simp[lM]) ?_
  simp(disch:=try exact dI) only[lM,hl0,hd8,push_cast,seval]
  refine ab.pure h143 rfl ?_
  refine zgZ ?_
  refine ab.pure h144 rfl ?_
  refine zgZ ?_
  refine am ([]) (fun x:Nat×Int=>[(32,.pv (.int .i64 (x.1:Int)))]) (fun x=>[(0,.cells 3 true [.pv (.int .i64 x.2)])]) (fun x=>x.1<=ps.length/\R=cH (bS 0 n) x.2 (ps.drop x.1)/\0<=x.2/\x.2<=4096) (fun x=>ps.length - x.1) ((0,l - 1)) ?_;intro e0 σ0 n0 h0;simp(disch:=try exact dI) only[push_cast,seval] at h0;obtain⟨rfl,rfl,rfl⟩:=h0;refine⟨?_,?_,?_⟩
  ·exact qsZ
  ·exact⟨by simp,by simpa using hR,by simp only;omega,by simp only;omega⟩
  rintro⟨i,L⟩ ⟨hi,hr,hL,hL2⟩
  simp only at hi hr hL hL2
  by_cases hlt:i<ps.length
  ·have hltI:(i:Int)<(ps.length:Int):=by omega
   obtain⟨x,hx⟩:∃ x,ps[i]? = some x:=⟨_,List.getElem?_eq_getElem hlt⟩
   have hxm:=List.mem_of_getElem? hx
   have hcall:=ih x (d+1) L (hpt x hxm) (by omega) hL hL2
   have hleft:=fi (δ:=0) (by decide) n x L hL hL2
   rw[wK hx] at hr
   obtain⟨⟨e1,e2⟩,he⟩:∃ q,q=bS 0 n L x:=⟨_,rfl⟩
   rw[<- he] at hcall hleft hr
   simp only at hcall hleft hr
   obtain⟨k',m',M',s',w',e',f'⟩:=x
   simp only[Typ.pv_mk] at hcall
   simp(disch:=try exact dI) only[hx,Option.map_some,Typ.pv_mk,ag,push_cast,seval]
   refine ab.lentK hcall [0] rfl qsZ qsZ ?_
   by_cases he0:e1=0
   ·subst he0
    rw[if_pos rfl] at hr
    simp(disch:=try exact dI) only[hk,push_cast,seval]
    exact⟨(i+1,e2),aI qsZ,⟨by simp only;omega,hr,by simp only;omega,by simp only;omega⟩,by simp only;omega⟩
   ·rw[if_neg he0] at hr
    subst hr
    simp(disch:=try exact dI) only[he0,push_cast,seval]
    exact aJ [] qsZ
  ·obtain rfl:i=ps.length:=by omega
   rw[List.drop_length,cH] at hr
   subst hr
   simp(disch:=try exact dI) only[Int.lt_irrefl,push_cast,seval]
   exact aJ [] qsZ
 ·rw[if_neg hz]
  refine bK.intro lM.2 (by simp[lM]) ?_
  simp(disch:=try exact dI) only[lM,hl0,hd8,push_cast,seval]
  refine ab.pure h143 rfl ?_
  simp(disch:=try exact dI) only[hz,push_cast,seval]
  exact aJ [] qsZ
theorem CZ (n:Nat)(ih:LO n)(m M s:Int)(w:List (List UInt8))(e:List Typ)(f:List TFd)(d l:Int)(ht:(Typ.mk 9 m M s w e f).ok)(hdn:d+(n+1:Nat)=9)(hd:1<=d)(hl:0<=l)(hl2:l<=4096)(hl0:¬ l=0) :
  bK Tryz.prog ap 1 123 [.pv (Typ.mk 9 m M s w e f).pv,.pv (.int .i64 d),.ptr 0 0] [.cells 3 true [.pv (.int .i64 l)]] (.pv (.int .i64 (bS 0 (n+1) l (.mk 9 m M s w e f)).1)) [.cells 3 true [.pv (.int .i64 (bS 0 (n+1) l (.mk 9 m M s w e f)).2)]]:=by
 obtain⟨h143,h144,hpt,hpl⟩:=AU ht
 have hown:=bc (k:=9) (m:=m) (M:=M) (s:=s) (w:=w) (e:=e) (f:=f)
 rw[show bE (.mk 9 m M s w e f)=f.map TFd.typ from rfl] at h144 hpt
 rw[Typ.ok_mk] at ht
 have hd8:¬ 8<d:=by omega
 rw[bS,if_neg hl0,if_pos rfl]
 generalize dr (.mk 9 m M s w e f)=z at *
 simp only[Typ.pv_mk] at h143 h144 ⊢
 by_cases hz:z=0
 ·have hfl:=(hown hz).2.2.2
  clear hown
  subst hz
  rw[if_pos rfl]
  obtain⟨R,hR⟩:∃ R,R=ce n (bS 0 n) (l - 1) f:=⟨_,rfl⟩
  rw[<- hR]
  refine bK.intro lM.2 (by simp[lM]) ?_
  simp(disch:=try exact dI) only[lM,hl0,hd8,push_cast,seval]
  refine ab.pure h143 rfl ?_
  refine zgZ ?_
  refine ab.pure h144 rfl ?_
  refine zgZ ?_
  refine am ([]) (fun x:Nat×Int=>[(32,.pv (.int .i64 (x.1:Int)))]) (fun x=>[(0,.cells 3 true [.pv (.int .i64 x.2)])]) (fun x=>x.1<=f.length/\R=ce n (bS 0 n) x.2 (f.drop x.1)/\0<=x.2/\x.2<=4096) (fun x=>f.length - x.1) ((0,l - 1)) ?_;intro e0 σ0 n0 h0;simp(disch:=try exact dI) only[push_cast,seval] at h0;obtain⟨rfl,rfl,rfl⟩:=h0;refine⟨?_,?_,?_⟩
  ·exact qsZ
  ·exact⟨by simp,by simpa using hR,by simp only;omega,by simp only;omega⟩
  rintro⟨i,L⟩ ⟨hi,hr,hL,hL2⟩
  simp only at hi hr hL hL2
  by_cases hlt:i<f.length
  ·have hltI:(i:Int)<(f.length:Int):=by omega
   obtain⟨g,hg⟩:∃ g,f[i]? = some g:=⟨_,List.getElem?_eq_getElem hlt⟩
   have hgm:=List.mem_of_getElem? hg
   have hgt:=hpt g.typ (List.mem_map_of_mem hgm)
   have hcall:=ih g.typ (d+1) L hgt (by omega) hL hL2
   have hleft:=fi (δ:=0) (by decide) n g.typ L hL hL2
   have hty:=fh (δ:=0) n L g.typ
   have hfe:=bq f [] hfl g hgm
   have hgd:=(cL (ht.2.2.2.2.2.2.2.2.2 g hgm)).2
   rw[mz hg] at hr
   obtain⟨⟨e1,e2⟩,he⟩:∃ q,q=bS 0 n L g.typ:=⟨_,rfl⟩
   rw[<- he] at hcall hleft hr hty
   clear he
   obtain⟨n',nm',nd',t',d'⟩:=g
   simp only[TFd.typ,TFd.dflt] at hcall hleft hr hty hgt hgd
   by_cases he0:e1=0
   ·subst he0
    rw[if_pos rfl] at hr
    by_cases h3:nd'=3
    ·subst h3
     obtain⟨b,hb⟩:=hfe
     obtain⟨x,r,rfl⟩:=fB hb
     have hx1:=hgd x (List.mem_cons_self ..)
     have hacc:=xY n t' x hx1 (fun hc=>kM n (lvl x) t' x (hty rfl) hgt (sD (ep x) hc) hx1)
     simp only[gY,rS,decide_true,Bool.true_and] at hr
     generalize accB n t' x=q at hacc hr
     obtain⟨k',m',M',s',w',e',f'⟩:=t'
     obtain⟨vk,vn,vs,vt,vl,vf⟩:=x
     simp only[Typ.pv_mk,Val.pv_mk] at hcall hacc
     simp(disch:=try exact dI) only[hg,Option.map_some,TFd.typ,Typ.pv_mk,ag,push_cast,seval]
     refine ab.lentK hcall [0] rfl qsZ qsZ ?_
     simp(disch:=try exact dI) only[hg,Option.map_some,TFd.pv_mk,Typ.pv_mk,Val.pv_mk,ag,au,push_cast,seval]
     refine ab.pure hacc rfl ?_
     cases q with
     | true=>
       rw[if_neg (by decide)] at hr
       refine zgZ ?_
       exact⟨(i+1,e2),aI qsZ,⟨by simp only;omega,hr,by simp only;omega,by simp only;omega⟩,by simp only;omega⟩
     | false=>
       rw[if_pos (by decide)] at hr
       subst hr
       refine zgZ ?_
       exact aJ [] qsZ
    ·rw[if_neg (by simp[gY,h3])] at hr
     obtain⟨k',m',M',s',w',e',f'⟩:=t'
     simp only[Typ.pv_mk] at hcall
     simp(disch:=try exact dI) only[hg,Option.map_some,TFd.typ,Typ.pv_mk,ag,push_cast,seval]
     refine ab.lentK hcall [0] rfl qsZ qsZ ?_
     simp(disch:=try exact dI) only[hg,Option.map_some,TFd.pv_mk,Typ.pv_mk,ag,h3,push_cast,seval]
     exact⟨(i+1,e2),aI qsZ,⟨by simp only;omega,hr,by simp only;omega,by simp only;omega⟩,by simp only;omega⟩
   ·rw[if_neg he0] at hr
    subst hr
    obtain⟨k',m',M',s',w',e',f'⟩:=t'
    simp only[Typ.pv_mk] at hcall
    simp(disch:=try exact dI) only[hg,Option.map_some,TFd.typ,Typ.pv_mk,ag,push_cast,seval]
    refine ab.lentK hcall [0] rfl qsZ qsZ ?_
    simp(disch:=try exact dI) only[he0,push_cast,seval]
    exact aJ [] qsZ
  ·obtain rfl:i=f.length:=by omega
   rw[List.drop_length,ce] at hr
   subst hr
   simp(disch:=try exact dI) only[Int.lt_irrefl,push_cast,seval]
   exact aJ [] qsZ
 ·rw[if_neg hz]
  refine bK.intro lM.2 (by simp[lM]) ?_
  simp(disch:=try exact dI) only[lM,hl0,hd8,push_cast,seval]
  refine ab.pure h143 rfl ?_
  simp(disch:=try exact dI) only[hz,push_cast,seval]
  exact aJ [] qsZ
theorem C1:∀ n,n<=8->LO n
 | 0,_=>fun t d l ht hd hl hl2=>C0 t d l (by omega) hl
 | n+1,hn=>fun t d l ht hd hl hl2=>by
   by_cases hl0:l=0
   ·subst hl0;exact CX n t d
   have ih:=C1 n (by omega)
   obtain⟨k,m,M,s,w,e,f⟩:=t
   by_cases hk:k=9
   ·subst hk;exact CZ n ih m M s w e f d l ht hd (by omega) hl hl2 hl0
   ·exact CY n ih k m M s w e f d l ht hd (by omega) hl hl2 hl0 hk
theorem dQ {k m M s:Int}{w:List (List UInt8)}{e:List Typ}{f:List TFd}(h:dr (.mk k m M s w e f)=0):(¬ k=8->e=[])/\(¬ (k=9\/k=10)->f=[]):=by
 rw[dr] at h
 by_cases a:inB k 1 10=false
 ·rw[if_pos a] at h;exact absurd h (by decide)
 rw[if_neg a] at h
 have hr:1<=k/\k<=10:=by simpa[inB] using a
 by_cases b:du k (.mk k m M s w e f)=true
 ·rw[if_pos b] at h;exact absurd h (by decide)
 have b':du k (.mk k m M s w e f)=false:=by simpa using b
 simp only[du,aE,Bool.or_eq_false_iff] at b'
 obtain⟨_,_,_,b4,b5⟩:=b'
 refine⟨fun h8=>?_,fun h9=>?_⟩
 ·rw[decide_eq_false h8] at b4
  exact List.length_eq_zero_iff.1 (by simpa using b4)
 ·have h9':¬ 9<=k:=by omega
  rw[decide_eq_false h9'] at b5
  exact List.length_eq_zero_iff.1 (by simpa using b5)
theorem AB {m M s:Int}{w:List (List UInt8)}{e:List Typ}{f:List TFd}(h:dr (.mk 8 m M s w e f)=0):m<=256:=by
 have hb:=(bc h).2.1
 unfold cf at hb
 rw[if_neg (fun hh=>absurd hh.1 (by decide))] at hb
 by_cases hc:(2<=(8:Int)/\(8:Int)<=8)/\(M<m\/m<loK 8\/hiK 8<M)
 ·rw[if_pos hc] at hb;exact absurd hb (by decide)
 ·have h2:¬ (M<m\/m<loK 8\/hiK 8<M):=fun hh=>hc ⟨by decide,hh⟩
  rw[show hiK 8=256 from rfl] at h2
  omega
theorem Ay {m M s:Int}{w:List (List UInt8)}{e:List Typ}{f:List TFd}(h:dr (.mk 10 m M s w e f)=0):∃ g r,f=g::r:=by
 have h1:=(bc h).2.2.1
 cases f with
 | cons g r=>exact⟨g,r,rfl⟩
 | nil=>simp[bt] at h1
theorem AC {k m M s:Int}{w:List (List UInt8)}{e:List Typ}{f:List TFd}(h:dr (.mk k m M s w e f)=0):f.length<=64:=by
 have h1:=(bc h).2.2.1
 by_cases hc:64<f.length
 ·exfalso
  unfold bt at h1
  repeat' split at h1
  all_goals first | exact absurd h1 (by decide) | omega
 ·omega
theorem uk {n:Nat}{a:Int}{nm:List UInt8}{t:Typ}{x:Val}{r:List Val}(h:gY n (.mk a nm 3 t (x::r))=false)(hx:x.ok):MP x:=by
 have h1:accB n t x=true:=by simpa[gY,rS] using h
 have h2:CU x=0:=by simp only[accB,Bool.and_eq_true,decide_eq_true_eq] at h1;exact h1.1
 have:=uz (cJ (lvl x) 1 x) 0 (by omega) h2
 exact⟨hx,by omega⟩
theorem jt:∀ (n N:Nat) (t:Typ),n<=N->tyV n t->t.ok->eD N t
 | 0,_,_,_,h,_=>h.elim
 | _+1,0,_,h,_,_=>absurd h (by omega)
 | n+1,N+1,.mk k m M s w e f,hN,h,ht=>by
   obtain⟨ho,h8,h9⟩:=h
   rw[Typ.ok_mk] at ht
   obtain⟨_,_,_,_,_,_,t3,t5,t4,t6⟩:=ht
   refine⟨fun hk hm=>?_,fun hk=>?_,fun hk=>⟨AC ho,fun g hg=>?_⟩⟩
   ·subst hk
    obtain⟨x,rfl⟩:=jw ho
    exact⟨AB ho,x,[],rfl,jt n N x (by omega) (h8 rfl x (List.mem_cons_self ..)) (t5 x (List.mem_cons_self ..))⟩
   ·subst hk
    obtain⟨g,r,rfl⟩:=Ay ho
    exact⟨g,r,rfl,jt n N g.typ (by omega) (h9 (.inr rfl) g (List.mem_cons_self ..)).1 (cL (t6 g (List.mem_cons_self ..))).1⟩
   ·subst hk
    have hs:=jt n N g.typ (by omega) (h9 (.inl rfl) g hg).1 (cL (t6 g hg)).1
    obtain⟨b,hb⟩:=bq f [] (bc ho).2.2.2 g hg
    have hd:=(cL (t6 g hg)).2
    have hdf:=(h9 (.inl rfl) g hg).2 rfl
    obtain⟨n',nm',nd',t',d'⟩:=g
    refine⟨fun _=>hs,fun h3=>?_⟩
    subst h3
    obtain⟨x,r,rfl⟩:=fB hb
    exact⟨x,r,rfl,uk hdf (hd x (List.mem_cons_self ..))⟩
theorem Dx:∀ (n:Nat) (t:Typ),n<=9->tyV n t->t.ok->O7 n t
 | 0,_,_,h,_=>h.elim
 | n+1,.mk k m M s w e f,hN,h,ht=>by
   have hs:=jt (n+1) 9 _ hN h ht
   obtain⟨ho,h8,h9⟩:=h
   obtain⟨he,hf⟩:=dQ ho
   rw[Typ.ok_mk] at ht
   obtain⟨_,_,_,_,_,_,t3,t5,t4,t6⟩:=ht
   refine⟨hs,by omega,by omega,fun x hx=>?_,fun g hg=>?_⟩
   ·by_cases hk:k=8
    ·exact Dx n x (by omega) (h8 hk x hx) (t5 x hx)
    ·rw[he hk] at hx;cases hx
   ·by_cases hk:k=9\/k=10
    ·exact Dx n g.typ (by omega) (h9 hk g hg).1 (cL (t6 g hg)).1
    ·rw[hf hk] at hg;cases hg
noncomputable def lX (t:Typ):Int:=if (bS 0 8 4096 t).1=0 then (if 4096<ci 8 t then 9 else 0) else (bS 0 8 4096 t).1
theorem K9 (t:Typ)(ht:t.ok):ak Tryz.prog ap 69 [t.pv] (.int .i64 (lX t)):=by
 have h94:=C1 8 (by omega) t 1 4096 ht (by omega) (by omega) (by omega)
 have h95:(bS 0 8 4096 t).1=0->ak Tryz.prog ap 124 [t.pv] (.int .i64 (ci 8 t)):=fun h=>fN 8 t (Dx 8 t (by omega) (fh 8 4096 t h) ht)
 simp only[lX]
 obtain⟨⟨z,L⟩,hq⟩:∃ q,q=bS 0 8 4096 t:=⟨_,rfl⟩
 rw[<- hq] at h94 h95 ⊢
 simp only at h94 h95 ⊢
 clear hq
 generalize ci 8 t=G at h95 ⊢
 obtain⟨k,m,M,s,w,e,f⟩:=t
 simp only[Typ.pv_mk] at h94 h95
 refine ak.intro Q69.2 (by simp[Q69]) ?_
 by_cases hz:z=0
 ·subst hz
  have h95:=h95 rfl
  rw[if_pos rfl]
  by_cases hg:4096<G
  ·rw[if_pos hg]
   simp(disch:=try exact dI) only[Q69,Typ.pv_mk,push_cast,seval]
   refine ab.lentK h94 [1] rfl qsZ qsZ ?_
   refine zgZ ?_
   refine ab.pure h95 rfl ?_
   simp(disch:=try exact dI) only[hg,push_cast,seval]
  ·rw[if_neg hg]
   simp(disch:=try exact dI) only[Q69,Typ.pv_mk,push_cast,seval]
   refine ab.lentK h94 [1] rfl qsZ qsZ ?_
   refine zgZ ?_
   refine ab.pure h95 rfl ?_
   simp(disch:=try exact dI) only[hg,push_cast,seval]
 ·rw[if_neg hz]
  simp(disch:=try exact dI) only[Q69,Typ.pv_mk,push_cast,seval]
  refine ab.lentK h94 [1] rfl qsZ qsZ ?_
  simp(disch:=try exact dI) only[hz,push_cast,seval]
def scB (k:Int):Bool:=decide (1<=k)&&decide (k<=7)
theorem Ht (k:Int):ak Tryz.prog ap 29 [.int .i64 k] (.bool (scB k)):=by
 unfold scB
 refine ak.intro Q29.2 (by simp[Q29]) ?_
 by_cases h1:1<=k
 ·by_cases h2:k<=7
  ·rw[decide_eq_true h1,decide_eq_true h2]
   simp(disch:=try exact dI) only[Q29,h1,h2,push_cast,seval]
  ·rw[decide_eq_true h1,decide_eq_false h2]
   simp(disch:=try exact dI) only[Q29,h1,h2,push_cast,seval]
 ·rw[decide_eq_false h1]
  simp(disch:=try exact dI) only[Q29,h1,push_cast,seval]
theorem CF (g:TFd):jm g=!scB g.typ.kind:=by
 unfold jm scB
 by_cases h1:1<=g.typ.kind
 ·by_cases h2:g.typ.kind<=7
  ·simp[h1,h2]<;>omega
  ·simp[h1,h2]<;>omega
 ·simp[h1]<;>omega
theorem Ix (t:Typ)(ht:t.ok):ak Tryz.prog ap 31 [t.pv] (.bool (dW t)):=by
 obtain⟨k,m,M,s,w,e,f⟩:=t
 rw[Typ.ok_mk] at ht
 have hf:f.length<=9000000000000:=by omega
 clear ht
 obtain⟨R,hR⟩:∃ R,R=dW (.mk k m M s w e f):=⟨_,rfl⟩
 rw[<- hR]
 refine ak.intro Q31.2 (by simp[Q31]) ?_
 simp(disch:=try exact dI) only[Q31,Typ.pv_mk,push_cast,seval]
 refine am ([]) (fun i:Nat=>[(3,.pv (.int .i64 (i:Int)))]) (fun _=>[]) (fun i=>i<=f.length/\(f.take i).any jm=false) (fun i=>f.length - i) (0) ?_;intro e0 σ0 n0 h0;simp(disch:=try exact dI) only[push_cast,seval] at h0;obtain⟨rfl,rfl,rfl⟩:=h0;refine⟨?_,?_,?_⟩
 ·exact qsZ
 ·exact⟨by omega,by simp⟩
 rintro i ⟨hi,hn⟩
 by_cases hlt:i<f.length
 ·have hltI:(i:Int)<(f.length:Int):=by omega
  obtain⟨g,hg⟩:∃ g,f[i]? = some g:=⟨_,List.getElem?_eq_getElem hlt⟩
  have hc:=Ht g.typ.kind
  have hd:=CF g
  have hsn:(f.take (i+1)).any jm=jm g:=by rw[aB hg,List.any_append,hn];simp
  have hall:jm g=true->f.any jm=true:=fun h=>List.any_eq_true.2 ⟨g,List.mem_of_getElem? hg,h⟩
  generalize jm g=z at hd hsn hall
  obtain⟨n',nm',nd',⟨k',m',M',s',w',e',f'⟩,d'⟩:=g
  simp only[TFd.typ,Typ.kind] at hc hd
  generalize scB k'=b at hc hd
  subst hd
  cases b with
  | true=>
    simp(disch:=try exact dI) only[hg,Option.map_some,TFd.pv_mk,Typ.pv_mk,ag,push_cast,seval]
    refine ab.pure hc rfl ?_
    refine zgZ ?_
    exact⟨i+1,aI qsZ,⟨by omega,by rw[hsn];rfl⟩,by omega⟩
  | false=>
    have:R=false:=by rw[hR];simp only[dW];rw[hall rfl];simp
    subst this
    simp(disch:=try exact dI) only[hg,Option.map_some,TFd.pv_mk,Typ.pv_mk,ag,push_cast,seval]
    refine ab.pure hc rfl ?_
    exact qsZ
 ·obtain rfl:i=f.length:=by omega
  rw[List.take_length] at hn
  have hR2:R=(decide (k=9)&&decide (0<f.length)):=by rw[hR];simp only[dW];rw[hn];simp
  subst hR2
  by_cases h9:k=9
  ·by_cases h0:0<f.length
   ·have h0I:(0:Int)<(f.length:Int):=by omega
    rw[decide_eq_true h9,decide_eq_true h0]
    simp(disch:=try exact dI) only[Int.lt_irrefl,h9,h0I,push_cast,seval]
   ·have h0I:¬ (0:Int)<(f.length:Int):=by omega
    rw[decide_eq_true h9,decide_eq_false h0]
    simp(disch:=try exact dI) only[Int.lt_irrefl,h9,h0I,push_cast,seval]
  ·rw[decide_eq_false h9]
   simp(disch:=try exact dI) only[Int.lt_irrefl,h9,push_cast,seval]
noncomputable def flE (t:Typ):Int:=if lX t=0 then (if dW t=true then 0 else 11) else lX t
theorem Ib (t:Typ)(ht:t.ok):ak Tryz.prog ap 34 [t.pv] (.int .i64 (flE t)):=by
 have h69:=K9 t ht
 have h74:=NT t (by obtain⟨k,m,M,s,w,e,f⟩:=t;rw[Typ.ok_mk] at ht;simp only[Typ.fields];omega)
 unfold flE
 generalize lX t=z at *
 generalize dW t=b at *
 obtain⟨k,m,M,s,w,e,f⟩:=t
 simp only[Typ.pv_mk] at h69 h74
 refine ak.intro Q34.2 (by simp[Q34]) ?_
 by_cases hz:z=0
 ·subst hz
  rw[if_pos rfl]
  cases b with
  | true=>
    rw[if_pos rfl]
    simp(disch:=try exact dI) only[Q34,Typ.pv_mk,push_cast,seval]
    refine ab.pure h69 rfl ?_
    refine zgZ ?_
    refine ab.pure h74 rfl ?_
    exact qsZ
  | false=>
    rw[if_neg (by decide)]
    simp(disch:=try exact dI) only[Q34,Typ.pv_mk,push_cast,seval]
    refine ab.pure h69 rfl ?_
    refine zgZ ?_
    refine ab.pure h74 rfl ?_
    exact qsZ
 ·rw[if_neg hz]
  simp(disch:=try exact dI) only[Q34,Typ.pv_mk,push_cast,seval]
  refine ab.pure h69 rfl ?_
  simp(disch:=try exact dI) only[hz,push_cast,seval]
end Go.Proofs.YtbojpfpliibfbaaGreatDoor
