/- A part. -/
import Derived.Test.YtngchmkoadaecaaGreatDoorClJSd
set_option linter.unusedVariables false
set_option linter.unusedSimpArgs false
set_option maxHeartbeats 16000000
set_option maxRecDepth 100000
open List renaming getElem?_eq_some_iff->Ur,drop_eq_getElem_cons->Vg,mem_cons->UP,getElem?_eq_getElem->Uq,mem_of_getElem?->Us
open Option renaming map_some->UM
namespace Go.Proofs.YtngchmkoadaecaaGreatDoor
open Go Go.Ab
attribute [local irreducible] vc
def hZ (rec:Int->Typ->Int×Int):Int->List Typ->Int×Int
 | l,[]=>(0,l)
 | l,t::r=>if (rec l t).1=0 then hZ rec (rec l t).2 r else rec l t
noncomputable def fW (n:Nat)(rec:Int->Typ->Int×Int):Int->List TFd->Int×Int
 | l,[]=>(0,l)
 | l,g::r=>if (rec l g.typ).1=0 then (if kA n g=true then (18,(rec l g.typ).2) else fW n rec (rec l g.typ).2 r) else rec l g.typ
noncomputable def fJ (δ:Int):Nat->Int->Typ->Int×Int
 | 0,l,_=>if l=0 then (9,0) else (23,l - δ)
 | n+1,l,.mk k m M s w e f=>if l=0 then (9,0) else if kq (.mk k m M s w e f)=0 then (if k=9 then fW n (fJ δ n) (l - 1) f else hZ (fJ δ n) (l - 1) (cG (.mk k m M s w e f))) else (kq (.mk k m M s w e f),l - 1)
theorem wm {rec:Int->Typ->Int×Int}{ps:List Typ}{i:Nat}{t:Typ}(h:ps[i]? = some t)(l:Int):hZ rec l (ps.drop i)=if (rec l t).1=0 then hZ rec (rec l t).2 (ps.drop (i+1)) else rec l t:=by
 have hi:=(Ur.1 h).1
 have he:ps[i]=t:=(Ur.1 h).2
 rw[Vg hi,he,hZ]
theorem wz {n:Nat}{rec:Int->Typ->Int×Int}{ps:List TFd}{i:Nat}{g:TFd}(h:ps[i]? = some g)(l:Int):fW n rec l (ps.drop i)=if (rec l g.typ).1=0 then (if kA n g=true then (18,(rec l g.typ).2) else fW n rec (rec l g.typ).2 (ps.drop (i+1))) else rec l g.typ:=by
 have hi:=(Ur.1 h).1
 have he:ps[i]=g:=(Ur.1 h).2
 rw[Vg hi,he,fW]
theorem jK {rec:Int->Typ->Int×Int}:∀ (ps:List Typ) (l:Int),(hZ rec l ps).1=0->∀ t∈ps,∃ l,(rec l t).1=0
 | [],_,_,_,h=>by cases h
 | x::r,l,h,t,ht=>by
   rw[hZ] at h
   by_cases h0:(rec l x).1=0
   ·rw[if_pos h0] at h
    rcases UP.1 ht with rfl | ht
    ·exact⟨l,h0⟩
    ·exact jK r _ h t ht
   ·rw[if_neg h0] at h;exact absurd h h0
theorem ox {n:Nat}{rec:Int->Typ->Int×Int}:∀ (ps:List TFd) (l:Int),(fW n rec l ps).1=0->∀ g∈ps,∃ l,(rec l g.typ).1=0
 | [],_,_,_,h=>by cases h
 | x::r,l,h,t,ht=>by
   rw[fW] at h
   by_cases h0:(rec l x.typ).1=0
   ·rw[if_pos h0] at h
    by_cases hd:kA n x=true
    ·rw[if_pos hd] at h;exact absurd h (show ¬ (18:Int)=0 by decide)
    ·rw[if_neg hd] at h
     rcases UP.1 ht with rfl | ht
     ·exact⟨l,h0⟩
     ·exact ox r _ h t ht
   ·rw[if_neg h0] at h;exact absurd h h0
theorem lD {n:Nat}{rec:Int->Typ->Int×Int}:∀ (ps:List TFd) (l:Int),(fW n rec l ps).1=0->∀ g∈ps,kA n g=false
 | [],_,_,_,h=>by cases h
 | x::r,l,h,t,ht=>by
   rw[fW] at h
   by_cases h0:(rec l x.typ).1=0
   ·rw[if_pos h0] at h
    by_cases hd:kA n x=true
    ·rw[if_pos hd] at h;exact absurd h (show ¬ (18:Int)=0 by decide)
    ·rw[if_neg hd] at h
     rcases UP.1 ht with rfl | ht
     ·simpa using hd
     ·exact lD r _ h t ht
   ·rw[if_neg h0] at h;exact absurd h h0
theorem j9 {δ:Int}:∀ (n:Nat) (l:Int) (t:Typ),(fJ δ n l t).1=0->tyV n t
 | 0,l,_,h=>by
   rw[fJ] at h
   split at h<;>cases h
 | n+1,l,.mk k m M s w e f,h=>by
   rw[fJ] at h
   by_cases hl:l=0
   ·rw[if_pos hl] at h;cases h
   rw[if_neg hl] at h
   by_cases ho:kq (.mk k m M s w e f)=0
   ·rw[if_pos ho] at h
    refine⟨ho,fun h8 x hx=>?_,fun h9 g hg=>?_⟩
    ·subst h8
     rw[if_neg (by decide)] at h
     obtain⟨l',hl'⟩:=jK _ _ h x hx
     exact j9 n l' x hl'
    ·by_cases hk:k=9
     ·subst hk
      rw[if_pos rfl] at h
      obtain⟨l',hl'⟩:=ox _ _ h g hg
      exact⟨j9 n l' g.typ hl',fun _=>lD _ _ h g hg⟩
     ·have hk10:k=10:=by omega
      subst hk10
      rw[if_neg (by decide)] at h
      obtain⟨l',hl'⟩:=jK _ _ h g.typ (List.mem_map_of_mem hg)
      exact⟨j9 n l' g.typ hl',fun h=>absurd h hk⟩
   ·rw[if_neg ho] at h;exact absurd h ho
def DY (rec:Int->Typ->Int×Int):Prop:=∀ t l,0<=l->l<=4096->0<=(rec l t).2/\(rec l t).2<=4096
theorem lr {rec:Int->Typ->Int×Int}(h:DY rec):∀ (ps:List Typ) (l:Int),0<=l->l<=4096->0<=(hZ rec l ps).2/\(hZ rec l ps).2<=4096
 | [],l,h1,h2=>⟨h1,h2⟩
 | x::r,l,h1,h2=>by
   have h3:=h x l h1 h2
   rw[hZ]
   split
   ·exact lr h r _ h3.1 h3.2
   ·exact h3
theorem lC {n:Nat}{rec:Int->Typ->Int×Int}(h:DY rec):∀ (ps:List TFd) (l:Int),0<=l->l<=4096->0<=(fW n rec l ps).2/\(fW n rec l ps).2<=4096
 | [],l,h1,h2=>⟨h1,h2⟩
 | x::r,l,h1,h2=>by
   have h3:=h x.typ l h1 h2
   rw[fW]
   split
   ·split
    ·exact h3
    ·exact lC h r _ h3.1 h3.2
   ·exact h3
theorem gI {δ:Int}(hδ:0<=δ/\δ<=1):∀ n,DY (fJ δ n)
 | 0,t,l,h1,h2=>by
   rw[fJ]
   split
   ·simp
   ·simp only;omega
 | n+1,.mk k m M s w e f,l,h1,h2=>by
   rw[fJ]
   split
   ·simp
   split
   ·split
    ·exact lC (gI hδ n) f (l - 1) (by omega) (by omega)
    ·exact lr (gI hδ n) _ (l - 1) (by omega) (by omega)
   ·simp only;omega
theorem fY {k:Int}:∀ (f b:List TFd),dl k b f=0->∀ g∈f,∃ b,e9 k b g=0
 | [],_,_,_,h=>by cases h
 | x::r,b,h,g,hg=>by
   rw[dl] at h
   by_cases h0:e9 k b x=0
   ·rw[if_pos h0] at h
    rcases UP.1 hg with rfl | hg
    ·exact⟨b,h0⟩
    ·exact fY r _ h g hg
   ·rw[if_neg h0] at h;exact absurd h h0
theorem lF {k:Int}{b:List TFd}{n:Int}{nm:List UInt8}{t:Typ}{d:List Val}(h:e9 k b (.mk n nm 3 t d)=0):∃ x r,d=x::r:=by
 cases d with
 | cons x r=>exact⟨x,r,rfl⟩
 | nil=>
   simp only[e9,List.length_nil,true_and,if_true] at h
   repeat' split at h
   all_goals first | exact absurd h (by decide) | skip
def M5 (n:Nat):Prop:=∀ (t:Typ) (d l:Int),t.ok->d+n=9->0<=l->l<=4096 ->
 bA Tryz.prog aB 1 110 [.pv t.pv,.pv (.int .i64 d),.ptr 0 0] [.cells 3 true [.pv (.int .i64 l)]] (.pv (.int .i64 (fJ 0 n l t).1)) [.cells 3 true [.pv (.int .i64 (fJ 0 n l t).2)]]
theorem lj {g:TFd}(h:g.ok):g.typ.ok/\∀ v∈g.dflt,v.ok:=by
 obtain⟨a1,a2,a3,a4,a5⟩:=g
 rw[Ug] at h
 exact⟨h.2.2.2.1,h.2.2.2.2.2⟩
theorem IF {k m M s:Int}{w:List (List UInt8)}{e:List Typ}{f:List TFd}(h:(Typ.mk k m M s w e f).ok):ap Tryz.prog aB 130 [(Typ.mk k m M s w e f).pv] (.int .i64 (kq (.mk k m M s w e f)))/\ap Tryz.prog aB 131 [(Typ.mk k m M s w e f).pv] (.list ((cG (.mk k m M s w e f)).map Typ.pv))/\(∀ x∈cG (.mk k m M s w e f),x.ok)/\(cG (.mk k m M s w e f)).length<=9000000000000:=by
 rw[Ul] at h
 obtain⟨_,_,_,_,h1,h2,h3,h4,h5,h6⟩:=h
 refine⟨OG m M s w e f k (fun x hx=>by have:=h2 x hx;omega) (by omega) (by omega) (by omega),FV k m M s w e f (by omega),?_⟩
 by_cases h8:k=8
 ·rw[show cG (.mk k m M s w e f)=e from if_pos h8]
  exact⟨h4,by omega⟩
 ·by_cases h9:k=9\/k=10
  ·rw[show cG (.mk k m M s w e f)=f.map TFd.typ by simp only[cG];rw[if_neg h8,if_pos h9]]
   refine⟨fun x hx=>?_,by rw[List.length_map];omega⟩
   obtain⟨g,hg,rfl⟩:=List.mem_map.1 hx
   exact (lj (h6 g hg)).1
  ·rw[show cG (.mk k m M s w e f)=[] by simp only[cG];rw[if_neg h8,if_neg h9]]
   exact⟨fun x hx=>(by cases hx),by simp⟩
theorem Dd (t:Typ)(d l:Int)(hd:d=9)(hl:0<=l):bA Tryz.prog aB 1 110 [.pv t.pv,.pv (.int .i64 d),.ptr 0 0] [.cells 3 true [.pv (.int .i64 l)]] (.pv (.int .i64 (fJ 0 0 l t).1)) [.cells 3 true [.pv (.int .i64 (fJ 0 0 l t).2)]]:=by
 subst hd
 rw[fJ]
 obtain⟨k',m',M',s',w',e',f'⟩:=t
 simp only[Um]
 by_cases h0:l=0
 ·subst h0
  rw[if_pos rfl]
  refine bA.intro kE.2 (by simp[kE]) ?_
  simp(maxSteps:=9^7) (disch:=try exact dI) only[kE,push_cast,seval]
  exact aI [] qsZ
 ·rw[if_neg h0]
  refine bA.intro kE.2 (by simp[kE]) ?_
  simp(maxSteps:=9^7) (disch:=try exact dI) only[kE,h0,Int.sub_zero,push_cast,seval]
  exact aI [] qsZ
theorem Da (n:Nat)(t:Typ)(d:Int):bA Tryz.prog aB 1 110 [.pv t.pv,.pv (.int .i64 d),.ptr 0 0] [.cells 3 true [.pv (.int .i64 0)]] (.pv (.int .i64 (fJ 0 (n+1) 0 t).1)) [.cells 3 true [.pv (.int .i64 (fJ 0 (n+1) 0 t).2)]]:=by
 obtain⟨k',m',M',s',w',e',f'⟩:=t
 rw[fJ,if_pos rfl]
 simp only[Um]
 refine bA.intro kE.2 (by simp[kE]) ?_
 simp(maxSteps:=9^7) (disch:=try exact dI) only[kE,push_cast,seval]
 exact aI [] qsZ
theorem Db (n:Nat)(ih:M5 n)(k m M s:Int)(w:List (List UInt8))(e:List Typ)(f:List TFd)(d l:Int)(ht:(Typ.mk k m M s w e f).ok)(hdn:d+(n+1:Nat)=9)(hd:1<=d)(hl:0<=l)(hl2:l<=4096)(hl0:¬ l=0)(hk:¬ k=9) :
  bA Tryz.prog aB 1 110 [.pv (Typ.mk k m M s w e f).pv,.pv (.int .i64 d),.ptr 0 0] [.cells 3 true [.pv (.int .i64 l)]] (.pv (.int .i64 (fJ 0 (n+1) l (.mk k m M s w e f)).1)) [.cells 3 true [.pv (.int .i64 (fJ 0 (n+1) l (.mk k m M s w e f)).2)]]:=by
 obtain⟨h143,h144,hpt,hpl⟩:=IF ht
 have hd8:¬ 8<d:=by omega
 rw[fJ,if_neg hl0,if_neg hk]
 generalize cG (.mk k m M s w e f)=ps at *
 generalize kq (.mk k m M s w e f)=z at *
 simp only[Um] at h143 h144 ⊢
 by_cases hz:z=0
 ·subst hz
  rw[if_pos rfl]
  obtain⟨R,hR⟩:∃ R,R=hZ (fJ 0 n) (l - 1) ps:=⟨_,rfl⟩
  rw[<- hR]
  refine bA.intro kE.2 (by simp[kE]) ?_
  simp(maxSteps:=9^7) (disch:=try exact dI) only[kE,hl0,hd8,push_cast,seval]
  refine ab.pure h143 rfl ?_
  simp(maxSteps:=9^7) (disch:=try exact dI) only[push_cast,seval]
  refine ab.pure h144 rfl ?_
  simp(maxSteps:=9^7) (disch:=try exact dI) only[push_cast,seval]
  refine aw ([]) (fun x:Nat×Int=>[(32,.pv (.int .i64 (x.1:Int)))]) (fun x=>[(0,.cells 3 true [.pv (.int .i64 x.2)])]) (fun x=>x.1<=ps.length/\R=hZ (fJ 0 n) x.2 (ps.drop x.1)/\0<=x.2/\x.2<=4096) (fun x=>ps.length - x.1) ((0,l - 1)) ?_;intro e0 σ0 n0 h0;simp(maxSteps:=9^7) (disch:=try exact dI) only[push_cast,seval] at h0;obtain⟨rfl,rfl,rfl⟩:=h0;refine⟨?_,?_,?_⟩
  ·simp(maxSteps:=9^7) (disch:=try exact dI) only[push_cast,seval]
  ·exact⟨by simp,by simpa using hR,by simp only;omega,by simp only;omega⟩
  rintro⟨i,L⟩ ⟨hi,hr,hL,hL2⟩
  simp only at hi hr hL hL2
  by_cases hlt:i<ps.length
  ·have hltI:(i:Int)<(ps.length:Int):=by omega
   obtain⟨x,hx⟩:∃ x,ps[i]? = some x:=⟨_,Uq hlt⟩
   have hxm:=Us hx
   have hcall:=ih x (d+1) L (hpt x hxm) (by omega) hL hL2
   have hleft:=gI (δ:=0) (by decide) n x L hL hL2
   rw[wm hx] at hr
   obtain⟨⟨e1,e2⟩,he⟩:∃ q,q=fJ 0 n L x:=⟨_,rfl⟩
   rw[<- he] at hcall hleft hr
   simp only at hcall hleft hr
   obtain⟨k',m',M',s',w',e',f'⟩:=x
   simp only[Um] at hcall
   simp(maxSteps:=9^7) (disch:=try exact dI) only[hx,UM,Um,ae,push_cast,seval]
   refine ab.lentK hcall [0] rfl qsZ qsZ ?_
   by_cases he0:e1=0
   ·subst he0
    rw[if_pos rfl] at hr
    simp(maxSteps:=9^7) (disch:=try exact dI) only[hk,push_cast,seval]
    exact⟨(i+1,e2),aN qsZ,⟨by simp only;omega,hr,by simp only;omega,by simp only;omega⟩,by simp only;omega⟩
   ·rw[if_neg he0] at hr
    subst hr
    simp(maxSteps:=9^7) (disch:=try exact dI) only[he0,push_cast,seval]
    exact aI [] qsZ
  ·obtain rfl:i=ps.length:=by omega
   rw[List.drop_length,hZ] at hr
   subst hr
   simp(maxSteps:=9^7) (disch:=try exact dI) only[Int.lt_irrefl,push_cast,seval]
   exact aI [] qsZ
 ·rw[if_neg hz]
  refine bA.intro kE.2 (by simp[kE]) ?_
  simp(maxSteps:=9^7) (disch:=try exact dI) only[kE,hl0,hd8,push_cast,seval]
  refine ab.pure h143 rfl ?_
  simp(maxSteps:=9^7) (disch:=try exact dI) only[hz,push_cast,seval]
  exact aI [] qsZ
theorem Dc (n:Nat)(ih:M5 n)(m M s:Int)(w:List (List UInt8))(e:List Typ)(f:List TFd)(d l:Int)(ht:(Typ.mk 9 m M s w e f).ok)(hdn:d+(n+1:Nat)=9)(hd:1<=d)(hl:0<=l)(hl2:l<=4096)(hl0:¬ l=0) :
  bA Tryz.prog aB 1 110 [.pv (Typ.mk 9 m M s w e f).pv,.pv (.int .i64 d),.ptr 0 0] [.cells 3 true [.pv (.int .i64 l)]] (.pv (.int .i64 (fJ 0 (n+1) l (.mk 9 m M s w e f)).1)) [.cells 3 true [.pv (.int .i64 (fJ 0 (n+1) l (.mk 9 m M s w e f)).2)]]:=by
 obtain⟨h143,h144,hpt,hpl⟩:=IF ht
 have hown:=el (k:=9) (m:=m) (M:=M) (s:=s) (w:=w) (e:=e) (f:=f)
 rw[show cG (.mk 9 m M s w e f)=f.map TFd.typ from rfl] at h144 hpt
 rw[Ul] at ht
 have hd8:¬ 8<d:=by omega
 rw[fJ,if_neg hl0,if_pos rfl]
 generalize kq (.mk 9 m M s w e f)=z at *
 simp only[Um] at h143 h144 ⊢
 by_cases hz:z=0
 ·have hfl:=(hown hz).2.2.2
  clear hown
  subst hz
  rw[if_pos rfl]
  obtain⟨R,hR⟩:∃ R,R=fW n (fJ 0 n) (l - 1) f:=⟨_,rfl⟩
  rw[<- hR]
  refine bA.intro kE.2 (by simp[kE]) ?_
  simp(maxSteps:=9^7) (disch:=try exact dI) only[kE,hl0,hd8,push_cast,seval]
  refine ab.pure h143 rfl ?_
  simp(maxSteps:=9^7) (disch:=try exact dI) only[push_cast,seval]
  refine ab.pure h144 rfl ?_
  simp(maxSteps:=9^7) (disch:=try exact dI) only[push_cast,seval]
  refine aw ([]) (fun x:Nat×Int=>[(32,.pv (.int .i64 (x.1:Int)))]) (fun x=>[(0,.cells 3 true [.pv (.int .i64 x.2)])]) (fun x=>x.1<=f.length/\R=fW n (fJ 0 n) x.2 (f.drop x.1)/\0<=x.2/\x.2<=4096) (fun x=>f.length - x.1) ((0,l - 1)) ?_;intro e0 σ0 n0 h0;simp(maxSteps:=9^7) (disch:=try exact dI) only[push_cast,seval] at h0;obtain⟨rfl,rfl,rfl⟩:=h0;refine⟨?_,?_,?_⟩
  ·simp(maxSteps:=9^7) (disch:=try exact dI) only[push_cast,seval]
  ·exact⟨by simp,by simpa using hR,by simp only;omega,by simp only;omega⟩
  rintro⟨i,L⟩ ⟨hi,hr,hL,hL2⟩
  simp only at hi hr hL hL2
  by_cases hlt:i<f.length
  ·have hltI:(i:Int)<(f.length:Int):=by omega
   obtain⟨g,hg⟩:∃ g,f[i]? = some g:=⟨_,Uq hlt⟩
   have hgm:=Us hg
   have hgt:=hpt g.typ (List.mem_map_of_mem hgm)
   have hcall:=ih g.typ (d+1) L hgt (by omega) hL hL2
   have hleft:=gI (δ:=0) (by decide) n g.typ L hL hL2
   have hty:=j9 (δ:=0) n L g.typ
   have hfe:=fY f [] hfl g hgm
   have hgd:=(lj (ht.2.2.2.2.2.2.2.2.2 g hgm)).2
   rw[wz hg] at hr
   obtain⟨⟨e1,e2⟩,he⟩:∃ q,q=fJ 0 n L g.typ:=⟨_,rfl⟩
   rw[<- he] at hcall hleft hr hty
   clear he
   obtain⟨n',nm',nd',t',d'⟩:=g
   simp only[TFd.typ,TFd.dflt] at hcall hleft hr hty hgt hgd
   by_cases he0:e1=0
   ·subst he0
    rw[if_pos rfl] at hr
    by_cases h3:nd'=3
    ·subst h3
     obtain⟨b,hb⟩:=hfe
     obtain⟨x,r,rfl⟩:=lF hb
     have hx1:=hgd x (List.mem_cons_self ..)
     have hacc:=xG n t' x hx1 (fun hc=>my n (lvl x) t' x (hty rfl) hgt (El (ml x) hc) hx1)
     simp only[kA,Ce,decide_true,Bool.true_and] at hr
     generalize accB n t' x=q at hacc hr
     obtain⟨k',m',M',s',w',e',f'⟩:=t'
     obtain⟨vk,vn,vs,vt,vl,vf⟩:=x
     simp only[Um,Uo] at hcall hacc
     simp(maxSteps:=9^7) (disch:=try exact dI) only[hg,UM,TFd.typ,Um,ae,push_cast,seval]
     refine ab.lentK hcall [0] rfl qsZ qsZ ?_
     simp(maxSteps:=9^7) (disch:=try exact dI) only[hg,UM,Uh,Um,Uo,ae,cz,push_cast,seval]
     refine ab.pure hacc rfl ?_
     cases q with
     | true=>
       rw[if_neg (by decide)] at hr
       simp(maxSteps:=9^7) (disch:=try exact dI) only[push_cast,seval]
       exact⟨(i+1,e2),aN qsZ,⟨by simp only;omega,hr,by simp only;omega,by simp only;omega⟩,by simp only;omega⟩
     | false=>
       rw[if_pos (by decide)] at hr
       subst hr
       simp(maxSteps:=9^7) (disch:=try exact dI) only[push_cast,seval]
       exact aI [] qsZ
    ·rw[if_neg (by simp[kA,h3])] at hr
     obtain⟨k',m',M',s',w',e',f'⟩:=t'
     simp only[Um] at hcall
     simp(maxSteps:=9^7) (disch:=try exact dI) only[hg,UM,TFd.typ,Um,ae,push_cast,seval]
     refine ab.lentK hcall [0] rfl qsZ qsZ ?_
     simp(maxSteps:=9^7) (disch:=try exact dI) only[hg,UM,Uh,Um,ae,h3,push_cast,seval]
     exact⟨(i+1,e2),aN qsZ,⟨by simp only;omega,hr,by simp only;omega,by simp only;omega⟩,by simp only;omega⟩
   ·rw[if_neg he0] at hr
    subst hr
    obtain⟨k',m',M',s',w',e',f'⟩:=t'
    simp only[Um] at hcall
    simp(maxSteps:=9^7) (disch:=try exact dI) only[hg,UM,TFd.typ,Um,ae,push_cast,seval]
    refine ab.lentK hcall [0] rfl qsZ qsZ ?_
    simp(maxSteps:=9^7) (disch:=try exact dI) only[he0,push_cast,seval]
    exact aI [] qsZ
  ·obtain rfl:i=f.length:=by omega
   rw[List.drop_length,fW] at hr
   subst hr
   simp(maxSteps:=9^7) (disch:=try exact dI) only[Int.lt_irrefl,push_cast,seval]
   exact aI [] qsZ
 ·rw[if_neg hz]
  refine bA.intro kE.2 (by simp[kE]) ?_
  simp(maxSteps:=9^7) (disch:=try exact dI) only[kE,hl0,hd8,push_cast,seval]
  refine ab.pure h143 rfl ?_
  simp(maxSteps:=9^7) (disch:=try exact dI) only[hz,push_cast,seval]
  exact aI [] qsZ
theorem De:∀ n,n<=8->M5 n
 | 0,_=>fun t d l ht hd hl hl2=>Dd t d l (by omega) hl
 | n+1,hn=>fun t d l ht hd hl hl2=>by
   by_cases hl0:l=0
   ·subst hl0;exact Da n t d
   have ih:=De n (by omega)
   obtain⟨k,m,M,s,w,e,f⟩:=t
   by_cases hk:k=9
   ·subst hk;exact Dc n ih m M s w e f d l ht hd (by omega) hl hl2 hl0
   ·exact Db n ih k m M s w e f d l ht hd (by omega) hl hl2 hl0 hk
