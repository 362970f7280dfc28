/- A part of the proof for CodecUsualCardSaid. -/
import Derived.Test.YtfepkhlgopjaoaaGreatDoorUsKSd
set_option linter.unusedVariables false
set_option linter.unusedSimpArgs false
set_option maxRecDepth 100000
-- many steps
namespace Go.Proofs.YtfepkhlgopjaoaaGreatDoor
open Go Go.Ab
attribute [local irreducible] vc
def fp (rec:Int→Typ→Int×Int):Int→List Typ→Int×Int
 | l,[]=>(0,l)
 | l,t::r=>if (rec l t).1=0 then fp rec (rec l t).2 r else rec l t
noncomputable def eq (n:Nat)(rec:Int→Typ→Int×Int):Int→List TFd→Int×Int
 | l,[]=>(0,l)
 | l,g::r=>if (rec l g.typ).1=0 then (if iz n g=true then (18,(rec l g.typ).2) else eq n rec (rec l g.typ).2 r) else rec l g.typ
noncomputable def dV (δ:Int):Nat→Int→Typ→Int×Int
 | 0,l,_=>if l=0 then (9,0) else (23,l - δ)
 | n+1,l,.mk k m M s w e f=>if l=0 then (9,0) else if eZ (.mk k m M s w e f)=0 then (if k=9 then eq n (dV δ n) (l - 1) f else fp (dV δ n) (l - 1) (bz (.mk k m M s w e f))) else (eZ (.mk k m M s w e f),l - 1)
theorem rK {rec:Int→Typ→Int×Int}{ps:List Typ}{i:Nat}{t:Typ}(h:ps[i]? = some t)(l:Int):fp rec l (ps.drop i)=if (rec l t).1=0 then fp rec (rec l t).2 (ps.drop (i+1)) else rec l t:=by
 have hi:=(List.getElem?_eq_some_iff.1 h).1
 have he:ps[i]=t:=(List.getElem?_eq_some_iff.1 h).2
 rw[List.drop_eq_getElem_cons hi,he,fp]
theorem rR {n:Nat}{rec:Int→Typ→Int×Int}{ps:List TFd}{i:Nat}{g:TFd}(h:ps[i]? = some g)(l:Int):eq n rec l (ps.drop i)=if (rec l g.typ).1=0 then (if iz n g=true then (18,(rec l g.typ).2) else eq n rec (rec l g.typ).2 (ps.drop (i+1))) else rec l g.typ:=by
 have hi:=(List.getElem?_eq_some_iff.1 h).1
 have he:ps[i]=g:=(List.getElem?_eq_some_iff.1 h).2
 rw[List.drop_eq_getElem_cons hi,he,eq]
theorem gS {rec:Int→Typ→Int×Int}:∀ (ps:List Typ) (l:Int),(fp rec l ps).1=0→∀ t∈ps,∃ l,(rec l t).1=0
 | [],_,_,_,h=>by cases h
 | x::r,l,h,t,ht=>by
   rw[fp] at h
   by_cases h0:(rec l x).1=0
   ·rw[if_pos h0] at h
    rcases List.mem_cons.1 ht with rfl | ht
    ·exact⟨l,h0⟩
    ·exact gS r _ h t ht
   ·rw[if_neg h0] at h;exact absurd h h0
theorem lB {n:Nat}{rec:Int→Typ→Int×Int}:∀ (ps:List TFd) (l:Int),(eq n rec l ps).1=0→∀ g∈ps,∃ l,(rec l g.typ).1=0
 | [],_,_,_,h=>by cases h
 | x::r,l,h,t,ht=>by
   rw[eq] at h
   by_cases h0:(rec l x.typ).1=0
   ·rw[if_pos h0] at h
    by_cases hd:iz n x=true
    ·rw[if_pos hd] at h;exact absurd h (show ¬ (18:Int)=0 by decide)
    ·rw[if_neg hd] at h
     rcases List.mem_cons.1 ht with rfl | ht
     ·exact⟨l,h0⟩
     ·exact lB r _ h t ht
   ·rw[if_neg h0] at h;exact absurd h h0
theorem iY {n:Nat}{rec:Int→Typ→Int×Int}:∀ (ps:List TFd) (l:Int),(eq n rec l ps).1=0→∀ g∈ps,iz n g=false
 | [],_,_,_,h=>by cases h
 | x::r,l,h,t,ht=>by
   rw[eq] at h
   by_cases h0:(rec l x.typ).1=0
   ·rw[if_pos h0] at h
    by_cases hd:iz n x=true
    ·rw[if_pos hd] at h;exact absurd h (show ¬ (18:Int)=0 by decide)
    ·rw[if_neg hd] at h
     rcases List.mem_cons.1 ht with rfl | ht
     ·simpa using hd
     ·exact iY r _ h t ht
   ·rw[if_neg h0] at h;exact absurd h h0
theorem fy {δ:Int}:∀ (n:Nat) (l:Int) (t:Typ),(dV δ n l t).1=0→tyV n t
 | 0,l,_,h=>by
   rw[dV] at h
   split at h<;>cases h
 | n+1,l,.mk k m M s w e f,h=>by
   rw[dV] at h
   by_cases hl:l=0
   ·rw[if_pos hl] at h;cases h
   rw[if_neg hl] at h
   by_cases ho:eZ (.mk k m M s w e f)=0
   ·rw[if_pos ho] at h
    refine⟨ho,fun h8 x hx=>?_,fun h9 g hg=>?_⟩
    ·subst h8
     rw[if_neg (by decide)] at h
     obtain⟨l',hl'⟩:=gS _ _ h x hx
     exact fy n l' x hl'
    ·by_cases hk:k=9
     ·subst hk
      rw[if_pos rfl] at h
      obtain⟨l',hl'⟩:=lB _ _ h g hg
      exact⟨fy n l' g.typ hl',fun _=>iY _ _ h g hg⟩
     ·have hk10:k=10:=by omega
      subst hk10
      rw[if_neg (by decide)] at h
      obtain⟨l',hl'⟩:=gS _ _ h g.typ (List.mem_map_of_mem hg)
      exact⟨fy n l' g.typ hl',fun h=>absurd h hk⟩
   ·rw[if_neg ho] at h;exact absurd h ho
def zh (rec:Int→Typ→Int×Int):Prop:=∀ t l,0≤l→l≤4096→0≤(rec l t).2∧(rec l t).2≤4096
theorem iT {rec:Int→Typ→Int×Int}(h:zh rec):∀ (ps:List Typ) (l:Int),0≤l→l≤4096→0≤(fp rec l ps).2∧(fp rec l ps).2≤4096
 | [],l,h1,h2=>⟨h1,h2⟩
 | x::r,l,h1,h2=>by
   have h3:=h x l h1 h2
   rw[fp]
   split
   ·exact iT h r _ h3.1 h3.2
   ·exact h3
theorem iX {n:Nat}{rec:Int→Typ→Int×Int}(h:zh rec):∀ (ps:List TFd) (l:Int),0≤l→l≤4096→0≤(eq n rec l ps).2∧(eq n rec l ps).2≤4096
 | [],l,h1,h2=>⟨h1,h2⟩
 | x::r,l,h1,h2=>by
   have h3:=h x.typ l h1 h2
   rw[eq]
   split
   ·split
    ·exact h3
    ·exact iX h r _ h3.1 h3.2
   ·exact h3
theorem eU {δ:Int}(hδ:0≤δ∧δ≤1):∀ n,zh (dV δ n)
 | 0,t,l,h1,h2=>by
   rw[dV]
   split
   ·simp
   ·simp only;omega
 | n+1,.mk k m M s w e f,l,h1,h2=>by
   rw[dV]
   split
   ·simp
   split
   ·split
    ·exact iX (eU hδ n) f (l - 1) (by omega) (by omega)
    ·exact iT (eU hδ n) _ (l - 1) (by omega) (by omega)
   ·simp only;omega
theorem eu {k:Int}:∀ (f b:List TFd),bT k b f=0→∀ g∈f,∃ b,dC k b g=0
 | [],_,_,_,h=>by cases h
 | x::r,b,h,g,hg=>by
   rw[bT] at h
   by_cases h0:dC k b x=0
   ·rw[if_pos h0] at h
    rcases List.mem_cons.1 hg with rfl | hg
    ·exact⟨b,h0⟩
    ·exact eu r _ h g hg
   ·rw[if_neg h0] at h;exact absurd h h0
theorem i1 {k:Int}{b:List TFd}{n:Int}{nm:List UInt8}{t:Typ}{d:List Val}(h:dC k b (.mk n nm 3 t d)=0):∃ x r,d=x::r:=by
 cases d with
 | cons x r=>exact⟨x,r,rfl⟩
 | nil=>
   simp only[dC,List.length_nil,true_and,if_true] at h
   repeat' split at h
   all_goals first | exact absurd h (by decide) | skip
end Go.Proofs.YtfepkhlgopjaoaaGreatDoor
-- many steps
namespace Go.Proofs.YtfepkhlgopjaoaaGreatDoor
open Go Go.Ab
attribute [local irreducible] vc
def Im (n:Nat):Prop:=∀ (t:Typ) (d l:Int),t.ok→d+n=9→0≤l→l≤4096 →
 cq Tryz.prog az 1 77 [.pv t.pv,.pv (.int .i64 d),.ptr 0 0] [.cells 3 true [.pv (.int .i64 l)]] (.pv (.int .i64 (dV 0 n l t).1)) [.cells 3 true [.pv (.int .i64 (dV 0 n l t).2)]]
theorem fH {g:TFd}(h:g.ok):g.typ.ok∧∀ v∈g.dflt,v.ok:=by
 obtain⟨a1,a2,a3,a4,a5⟩:=g
 rw[TFd.ok_mk] at h
 exact⟨h.2.2.2.1,h.2.2.2.2.2⟩
theorem D0 {k m M s:Int}{w:List (List UInt8)}{e:List Typ}{f:List TFd}(h:(Typ.mk k m M s w e f).ok):ap Tryz.prog az 141 [(Typ.mk k m M s w e f).pv] (.int .i64 (eZ (.mk k m M s w e f)))∧ap Tryz.prog az 142 [(Typ.mk k m M s w e f).pv] (.list ((bz (.mk k m M s w e f)).map Typ.pv))∧(∀ x∈bz (.mk k m M s w e f),x.ok)∧(bz (.mk k m M s w e f)).length≤9000000000000:=by
 rw[Typ.ok_mk] at h
 obtain⟨_,_,_,_,h1,h2,h3,h4,h5,h6⟩:=h
 refine⟨Jv m M s w e f k (fun x hx=>by have:=h2 x hx;omega) (by omega) (by omega) (by omega),By k m M s w e f (by omega),?_⟩
 by_cases h8:k=8
 ·rw[show bz (.mk k m M s w e f)=e from if_pos h8]
  exact⟨h4,by omega⟩
 ·by_cases h9:k=9∨k=10
  ·rw[show bz (.mk k m M s w e f)=f.map TFd.typ by simp only[bz];rw[if_neg h8,if_pos h9]]
   refine⟨fun x hx=>?_,by rw[List.length_map];omega⟩
   obtain⟨g,hg,rfl⟩:=List.mem_map.1 hx
   exact (fH (h6 g hg)).1
  ·rw[show bz (.mk k m M s w e f)=[] by simp only[bz];rw[if_neg h8,if_neg h9]]
   exact⟨fun x hx=>(by cases hx),by simp⟩
theorem yg (t:Typ)(d l:Int)(hd:d=9)(hl:0≤l):cq Tryz.prog az 1 77 [.pv t.pv,.pv (.int .i64 d),.ptr 0 0] [.cells 3 true [.pv (.int .i64 l)]] (.pv (.int .i64 (dV 0 0 l t).1)) [.cells 3 true [.pv (.int .i64 (dV 0 0 l t).2)]]:=by
 subst hd
 rw[dV]
 obtain⟨k',m',M',s',w',e',f'⟩:=t
 simp only[Typ.pv_mk]
 by_cases h0:l=0
 ·subst h0
  rw[if_pos rfl]
  refine cq.intro io (by simp[F77]) ?_
  simp(maxSteps:=9^7) (disch:=try exact dI) only[F77,push_cast,seval]
  exact aL [] qsZ
 ·rw[if_neg h0]
  refine cq.intro io (by simp[F77]) ?_
  simp(maxSteps:=9^7) (disch:=try exact dI) only[F77,h0,Int.sub_zero,push_cast,seval]
  exact aL [] qsZ
theorem yc (n:Nat)(t:Typ)(d:Int):cq Tryz.prog az 1 77 [.pv t.pv,.pv (.int .i64 d),.ptr 0 0] [.cells 3 true [.pv (.int .i64 0)]] (.pv (.int .i64 (dV 0 (n+1) 0 t).1)) [.cells 3 true [.pv (.int .i64 (dV 0 (n+1) 0 t).2)]]:=by
 obtain⟨k',m',M',s',w',e',f'⟩:=t
 rw[dV,if_pos rfl]
 simp only[Typ.pv_mk]
 refine cq.intro io (by simp[F77]) ?_
 simp(maxSteps:=9^7) (disch:=try exact dI) only[F77,push_cast,seval]
 exact aL [] qsZ
set_option maxHeartbeats 4000000 in
theorem yd (n:Nat)(ih:Im n)(k m M s:Int)(w:List (List UInt8))(e:List Typ)(f:List TFd)(d l:Int)(ht:(Typ.mk k m M s w e f).ok)(hdn:d+(n+1:Nat)=9)(hd:1≤d)(hl:0≤l)(hl2:l≤4096)(hl0:¬ l=0)(hk:¬ k=9) :
  cq Tryz.prog az 1 77 [.pv (Typ.mk k m M s w e f).pv,.pv (.int .i64 d),.ptr 0 0] [.cells 3 true [.pv (.int .i64 l)]] (.pv (.int .i64 (dV 0 (n+1) l (.mk k m M s w e f)).1)) [.cells 3 true [.pv (.int .i64 (dV 0 (n+1) l (.mk k m M s w e f)).2)]]:=by
 obtain⟨h143,h144,hpt,hpl⟩:=D0 ht
 have hd8:¬ 8<d:=by omega
 rw[dV,if_neg hl0,if_neg hk]
 generalize bz (.mk k m M s w e f)=ps at *
 generalize eZ (.mk k m M s w e f)=z at *
 simp only[Typ.pv_mk] at h143 h144 ⊢
 by_cases hz:z=0
 ·subst hz
  rw[if_pos rfl]
  obtain⟨R,hR⟩:∃ R,R=fp (dV 0 n) (l - 1) ps:=⟨_,rfl⟩
  rw[← hR]
  refine cq.intro io (by simp[F77]) ?_
  simp(maxSteps:=9^7) (disch:=try exact dI) only[F77,hl0,hd8,push_cast,seval]
  refine ae.pure h143 rfl ?_
  simp(maxSteps:=9^7) (disch:=try exact dI) only[push_cast,seval]
  refine ae.pure h144 rfl ?_
  simp(maxSteps:=9^7) (disch:=try exact dI) only[push_cast,seval]
  refine aB ([]) (fun x:Nat×Int=>[(32,.pv (.int .i64 (x.1:Int)))]) (fun x=>[(0,.cells 3 true [.pv (.int .i64 x.2)])]) (fun x=>x.1≤ps.length∧R=fp (dV 0 n) x.2 (ps.drop x.1)∧0≤x.2∧x.2≤4096) (fun x=>ps.length - x.1) ((0,l - 1)) ?_;intro e0 σ0 n0 h0;simp(maxSteps:=9^7) (disch:=try exact dI) only[push_cast,seval] at h0;obtain⟨rfl,rfl,rfl⟩:=h0;refine⟨?_,?_,?_⟩
  ·simp(maxSteps:=9^7) (disch:=try exact dI) only[push_cast,seval]
  ·exact⟨by simp,by simpa using hR,by simp only;omega,by simp only;omega⟩
  rintro⟨i,L⟩ ⟨hi,hr,hL,hL2⟩
  simp only at hi hr hL hL2
  by_cases hlt:i<ps.length
  ·have hltI:(i:Int)<(ps.length:Int):=by omega
   obtain⟨x,hx⟩:∃ x,ps[i]? = some x:=⟨_,List.getElem?_eq_getElem hlt⟩
   have hxm:=List.mem_of_getElem? hx
   have hcall:=ih x (d+1) L (hpt x hxm) (by omega) hL hL2
   have hleft:=eU (δ:=0) (by decide) n x L hL hL2
   rw[rK hx] at hr
   obtain⟨⟨e1,e2⟩,he⟩:∃ q,q=dV 0 n L x:=⟨_,rfl⟩
   rw[← he] at hcall hleft hr
   simp only at hcall hleft hr
   obtain⟨k',m',M',s',w',e',f'⟩:=x
   simp only[Typ.pv_mk] at hcall
   simp(maxSteps:=9^7) (disch:=try exact dI) only[hx,Option.map_some,Typ.pv_mk,ag,push_cast,seval]
   refine ae.lentK hcall [0] rfl qsZ qsZ ?_
   by_cases he0:e1=0
   ·subst he0
    rw[if_pos rfl] at hr
    simp(maxSteps:=9^7) (disch:=try exact dI) only[hk,push_cast,seval]
    exact⟨(i+1,e2),bH qsZ,⟨by simp only;omega,hr,by simp only;omega,by simp only;omega⟩,by simp only;omega⟩
   ·rw[if_neg he0] at hr
    subst hr
    simp(maxSteps:=9^7) (disch:=try exact dI) only[he0,push_cast,seval]
    exact aL [] qsZ
  ·obtain rfl:i=ps.length:=by omega
   rw[List.drop_length,fp] at hr
   subst hr
   simp(maxSteps:=9^7) (disch:=try exact dI) only[Int.lt_irrefl,push_cast,seval]
   exact aL [] qsZ
 ·rw[if_neg hz]
  refine cq.intro io (by simp[F77]) ?_
  simp(maxSteps:=9^7) (disch:=try exact dI) only[F77,hl0,hd8,push_cast,seval]
  refine ae.pure h143 rfl ?_
  simp(maxSteps:=9^7) (disch:=try exact dI) only[hz,push_cast,seval]
  exact aL [] qsZ
end Go.Proofs.YtfepkhlgopjaoaaGreatDoor
-- many steps
namespace Go.Proofs.YtfepkhlgopjaoaaGreatDoor
open Go Go.Ab
attribute [local irreducible] vc
set_option maxHeartbeats 4000000 in
theorem ye (n:Nat)(ih:Im n)(m M s:Int)(w:List (List UInt8))(e:List Typ)(f:List TFd)(d l:Int)(ht:(Typ.mk 9 m M s w e f).ok)(hdn:d+(n+1:Nat)=9)(hd:1≤d)(hl:0≤l)(hl2:l≤4096)(hl0:¬ l=0) :
  cq Tryz.prog az 1 77 [.pv (Typ.mk 9 m M s w e f).pv,.pv (.int .i64 d),.ptr 0 0] [.cells 3 true [.pv (.int .i64 l)]] (.pv (.int .i64 (dV 0 (n+1) l (.mk 9 m M s w e f)).1)) [.cells 3 true [.pv (.int .i64 (dV 0 (n+1) l (.mk 9 m M s w e f)).2)]]:=by
 obtain⟨h143,h144,hpt,hpl⟩:=D0 ht
 have hown:=bG (k:=9) (m:=m) (M:=M) (s:=s) (w:=w) (e:=e) (f:=f)
 rw[show bz (.mk 9 m M s w e f)=f.map TFd.typ from rfl] at h144 hpt
 rw[Typ.ok_mk] at ht
 have hd8:¬ 8<d:=by omega
 rw[dV,if_neg hl0,if_pos rfl]
 generalize eZ (.mk 9 m M s w e f)=z at *
 simp only[Typ.pv_mk] at h143 h144 ⊢
 by_cases hz:z=0
 ·have hfl:=(hown hz).2.2.2
  clear hown
  subst hz
  rw[if_pos rfl]
  obtain⟨R,hR⟩:∃ R,R=eq n (dV 0 n) (l - 1) f:=⟨_,rfl⟩
  rw[← hR]
  refine cq.intro io (by simp[F77]) ?_
  simp(maxSteps:=9^7) (disch:=try exact dI) only[F77,hl0,hd8,push_cast,seval]
  refine ae.pure h143 rfl ?_
  simp(maxSteps:=9^7) (disch:=try exact dI) only[push_cast,seval]
  refine ae.pure h144 rfl ?_
  simp(maxSteps:=9^7) (disch:=try exact dI) only[push_cast,seval]
  refine aB ([]) (fun x:Nat×Int=>[(32,.pv (.int .i64 (x.1:Int)))]) (fun x=>[(0,.cells 3 true [.pv (.int .i64 x.2)])]) (fun x=>x.1≤f.length∧R=eq n (dV 0 n) x.2 (f.drop x.1)∧0≤x.2∧x.2≤4096) (fun x=>f.length - x.1) ((0,l - 1)) ?_;intro e0 σ0 n0 h0;simp(maxSteps:=9^7) (disch:=try exact dI) only[push_cast,seval] at h0;obtain⟨rfl,rfl,rfl⟩:=h0;refine⟨?_,?_,?_⟩
  ·simp(maxSteps:=9^7) (disch:=try exact dI) only[push_cast,seval]
  ·exact⟨by simp,by simpa using hR,by simp only;omega,by simp only;omega⟩
  rintro⟨i,L⟩ ⟨hi,hr,hL,hL2⟩
  simp only at hi hr hL hL2
  by_cases hlt:i<f.length
  ·have hltI:(i:Int)<(f.length:Int):=by omega
   obtain⟨g,hg⟩:∃ g,f[i]? = some g:=⟨_,List.getElem?_eq_getElem hlt⟩
   have hgm:=List.mem_of_getElem? hg
   have hgt:=hpt g.typ (List.mem_map_of_mem hgm)
   have hcall:=ih g.typ (d+1) L hgt (by omega) hL hL2
   have hleft:=eU (δ:=0) (by decide) n g.typ L hL hL2
   have hty:=fy (δ:=0) n L g.typ
   have hfe:=eu f [] hfl g hgm
   have hgd:=(fH (ht.2.2.2.2.2.2.2.2.2 g hgm)).2
   rw[rR hg] at hr
   obtain⟨⟨e1,e2⟩,he⟩:∃ q,q=dV 0 n L g.typ:=⟨_,rfl⟩
   rw[← he] at hcall hleft hr hty
   clear he
   obtain⟨n',nm',nd',t',d'⟩:=g
   simp only[TFd.typ,TFd.dflt] at hcall hleft hr hty hgt hgd
   by_cases he0:e1=0
   ·subst he0
    rw[if_pos rfl] at hr
    by_cases h3:nd'=3
    ·subst h3
     obtain⟨b,hb⟩:=hfe
     obtain⟨x,r,rfl⟩:=i1 hb
     have hx1:=hgd x (List.mem_cons_self ..)
     have hacc:=sR n t' x hx1 (fun hc=>jJ n (lvl x) t' x (hty rfl) hgt (z8 (jD x) hc) hx1)
     simp only[iz,xb,decide_true,Bool.true_and] at hr
     generalize accB n t' x=q at hacc hr
     obtain⟨k',m',M',s',w',e',f'⟩:=t'
     obtain⟨vk,vn,vs,vt,vl,vf⟩:=x
     simp only[Typ.pv_mk,Val.pv_mk] at hcall hacc
     simp(maxSteps:=9^7) (disch:=try exact dI) only[hg,Option.map_some,TFd.typ,Typ.pv_mk,ag,push_cast,seval]
     refine ae.lentK hcall [0] rfl qsZ qsZ ?_
     simp(maxSteps:=9^7) (disch:=try exact dI) only[hg,Option.map_some,TFd.pv_mk,Typ.pv_mk,Val.pv_mk,ag,br,push_cast,seval]
     refine ae.pure hacc rfl ?_
     cases q with
     | true=>
       rw[if_neg (by decide)] at hr
       simp(maxSteps:=9^7) (disch:=try exact dI) only[push_cast,seval]
       exact⟨(i+1,e2),bH qsZ,⟨by simp only;omega,hr,by simp only;omega,by simp only;omega⟩,by simp only;omega⟩
     | false=>
       rw[if_pos (by decide)] at hr
       subst hr
       simp(maxSteps:=9^7) (disch:=try exact dI) only[push_cast,seval]
       exact aL [] qsZ
    ·rw[if_neg (by simp[iz,h3])] at hr
     obtain⟨k',m',M',s',w',e',f'⟩:=t'
     simp only[Typ.pv_mk] at hcall
     simp(maxSteps:=9^7) (disch:=try exact dI) only[hg,Option.map_some,TFd.typ,Typ.pv_mk,ag,push_cast,seval]
     refine ae.lentK hcall [0] rfl qsZ qsZ ?_
     simp(maxSteps:=9^7) (disch:=try exact dI) only[hg,Option.map_some,TFd.pv_mk,Typ.pv_mk,ag,h3,push_cast,seval]
     exact⟨(i+1,e2),bH qsZ,⟨by simp only;omega,hr,by simp only;omega,by simp only;omega⟩,by simp only;omega⟩
   ·rw[if_neg he0] at hr
    subst hr
    obtain⟨k',m',M',s',w',e',f'⟩:=t'
    simp only[Typ.pv_mk] at hcall
    simp(maxSteps:=9^7) (disch:=try exact dI) only[hg,Option.map_some,TFd.typ,Typ.pv_mk,ag,push_cast,seval]
    refine ae.lentK hcall [0] rfl qsZ qsZ ?_
    simp(maxSteps:=9^7) (disch:=try exact dI) only[he0,push_cast,seval]
    exact aL [] qsZ
  ·obtain rfl:i=f.length:=by omega
   rw[List.drop_length,eq] at hr
   subst hr
   simp(maxSteps:=9^7) (disch:=try exact dI) only[Int.lt_irrefl,push_cast,seval]
   exact aL [] qsZ
 ·rw[if_neg hz]
  refine cq.intro io (by simp[F77]) ?_
  simp(maxSteps:=9^7) (disch:=try exact dI) only[F77,hl0,hd8,push_cast,seval]
  refine ae.pure h143 rfl ?_
  simp(maxSteps:=9^7) (disch:=try exact dI) only[hz,push_cast,seval]
  exact aL [] qsZ
theorem yh:∀ n,n≤8→Im n
 | 0,_=>fun t d l ht hd hl hl2=>yg t d l (by omega) hl
 | n+1,hn=>fun t d l ht hd hl hl2=>by
   by_cases hl0:l=0
   ·subst hl0;exact yc n t d
   have ih:=yh n (by omega)
   obtain⟨k,m,M,s,w,e,f⟩:=t
   by_cases hk:k=9
   ·subst hk;exact ye n ih m M s w e f d l ht hd (by omega) hl hl2 hl0
   ·exact yd n ih k m M s w e f d l ht hd (by omega) hl hl2 hl0 hk
end Go.Proofs.YtfepkhlgopjaoaaGreatDoor
