/- A part of the proof for FixedwidthRepresentableCardSaid. -/
import Derived.Test.YtbojpfpliibfbaaGreatDoorReRSe
import Derived.Test.YtbojpfpliibfbaaGreatDoorReCore6
import Derived.Test.YtbojpfpliibfbaaGreatDoorReF
import Derived.Test.YtbojpfpliibfbaaGreatDoorReRD2
set_option maxRecDepth 100000
set_option linter.unusedVariables false
set_option linter.unusedSimpArgs false
-- many steps
namespace Go.Proofs.YtbojpfpliibfbaaGreatDoor
open Go Go.Ab
attribute [local irreducible] vc
def HD (n:Nat):Prop:=∀ (t:Typ) (d l:Int),t.ok→d+n=9→0≤l→l≤4096 →
 dz Tryz.prog aD 1 123 [.pv t.pv,.pv (.int .i64 d),.ptr 0 0] [.cells 3 true [.pv (.int .i64 l)]] (.pv (.int .i64 (bO 0 n l t).1)) [.cells 3 true [.pv (.int .i64 (bO 0 n l t).2)]]
theorem df {g:TFd}(h:g.ok):g.typ.ok∧∀ v∈g.dflt,v.ok:=by
 obtain⟨a1,a2,a3,a4,a5⟩:=g
 rw[TFd.ok_mk] at h
 exact⟨h.2.2.2.1,h.2.2.2.2.2⟩
theorem vw {k m M s:Int}{w:List (List UInt8)}{e:List Typ}{f:List TFd}(h:(Typ.mk k m M s w e f).ok):ag Tryz.prog aD 178 [(Typ.mk k m M s w e f).pv] (.int .i64 (bh (.mk k m M s w e f)))∧ag Tryz.prog aD 179 [(Typ.mk k m M s w e f).pv] (.list ((bC (.mk k m M s w e f)).map Typ.pv))∧(∀ x∈bC (.mk k m M s w e f),x.ok)∧(bC (.mk k m M s w e f)).length≤9000000000000:=by
 rw[Typ.ok_mk] at h
 obtain⟨_,_,_,_,h1,h2,h3,h4,h5,h6⟩:=h
 refine⟨II m M s w e f k (fun x hx=>by have:=h2 x hx;omega) (by omega),As k m M s w e f (by omega),?_⟩
 by_cases h8:k=8
 ·rw[show bC (.mk k m M s w e f)=e from if_pos h8]
  exact⟨h4,by omega⟩
 ·by_cases h9:k=9∨k=10
  ·rw[show bC (.mk k m M s w e f)=f.map TFd.typ by simp only[bC];rw[if_neg h8,if_pos h9]]
   refine⟨fun x hx=>?_,by rw[List.length_map];omega⟩
   obtain⟨g,hg,rfl⟩:=List.mem_map.1 hx
   exact (df (h6 g hg)).1
  ·rw[show bC (.mk k m M s w e f)=[] by simp only[bC];rw[if_neg h8,if_neg h9]]
   exact⟨fun x hx=>(by cases hx),by simp⟩
theorem xj (t:Typ)(d l:Int)(hd:d=9)(hl:0≤l):dz Tryz.prog aD 1 123 [.pv t.pv,.pv (.int .i64 d),.ptr 0 0] [.cells 3 true [.pv (.int .i64 l)]] (.pv (.int .i64 (bO 0 0 l t).1)) [.cells 3 true [.pv (.int .i64 (bO 0 0 l t).2)]]:=by
 subst hd
 rw[bO]
 obtain⟨k',m',M',s',w',e',f'⟩:=t
 simp only[Typ.pv_mk]
 by_cases h0:l=0
 ·subst h0
  rw[if_pos rfl]
  refine dz.intro fc (by simp[om]) ?_
  simp(maxSteps:=9^7) (disch:=try exact dI) only[om,push_cast,seval]
  exact bd [] qsZ
 ·rw[if_neg h0]
  refine dz.intro fc (by simp[om]) ?_
  simp(maxSteps:=9^7) (disch:=try exact dI) only[om,h0,Int.sub_zero,push_cast,seval]
  exact bd [] qsZ
theorem xe (n:Nat)(t:Typ)(d:Int):dz Tryz.prog aD 1 123 [.pv t.pv,.pv (.int .i64 d),.ptr 0 0] [.cells 3 true [.pv (.int .i64 0)]] (.pv (.int .i64 (bO 0 (n+1) 0 t).1)) [.cells 3 true [.pv (.int .i64 (bO 0 (n+1) 0 t).2)]]:=by
 obtain⟨k',m',M',s',w',e',f'⟩:=t
 rw[bO,if_pos rfl]
 simp only[Typ.pv_mk]
 refine dz.intro fc (by simp[om]) ?_
 simp(maxSteps:=9^7) (disch:=try exact dI) only[om,push_cast,seval]
 exact bd [] qsZ
set_option maxHeartbeats 4000000 in
theorem xg (n:Nat)(ih:HD n)(k m M s:Int)(w:List (List UInt8))(e:List Typ)(f:List TFd)(d l:Int)(ht:(Typ.mk k m M s w e f).ok)(hdn:d+(n+1:Nat)=9)(hd:1≤d)(hl:0≤l)(hl2:l≤4096)(hl0:¬ l=0)(hk:¬ k=9) :
  dz Tryz.prog aD 1 123 [.pv (Typ.mk k m M s w e f).pv,.pv (.int .i64 d),.ptr 0 0] [.cells 3 true [.pv (.int .i64 l)]] (.pv (.int .i64 (bO 0 (n+1) l (.mk k m M s w e f)).1)) [.cells 3 true [.pv (.int .i64 (bO 0 (n+1) l (.mk k m M s w e f)).2)]]:=by
 obtain⟨h143,h144,hpt,hpl⟩:=vw ht
 have hd8:¬ 8<d:=by omega
 rw[bO,if_neg hl0,if_neg hk]
 generalize bC (.mk k m M s w e f)=ps at *
 generalize bh (.mk k m M s w e f)=z at *
 simp only[Typ.pv_mk] at h143 h144 ⊢
 by_cases hz:z=0
 ·subst hz
  rw[if_pos rfl]
  obtain⟨R,hR⟩:∃ R,R=cn (bO 0 n) (l - 1) ps:=⟨_,rfl⟩
  rw[← hR]
  refine dz.intro fc (by simp[om]) ?_
  simp(maxSteps:=9^7) (disch:=try exact dI) only[om,hl0,hd8,push_cast,seval]
  refine ab.pure h143 rfl ?_
  simp(maxSteps:=9^7) (disch:=try exact dI) only[push_cast,seval]
  refine ab.pure h144 rfl ?_
  simp(maxSteps:=9^7) (disch:=try exact dI) only[push_cast,seval]
  refine aw ([]) (fun x:Nat×Int=>[(32,.pv (.int .i64 (x.1:Int)))]) (fun x=>[(0,.cells 3 true [.pv (.int .i64 x.2)])]) (fun x=>x.1≤ps.length∧R=cn (bO 0 n) x.2 (ps.drop x.1)∧0≤x.2∧x.2≤4096) (fun x=>ps.length - x.1) ((0,l - 1)) ?_;intro e0 σ0 n0 h0;simp(maxSteps:=9^7) (disch:=try exact dI) only[push_cast,seval] at h0;obtain⟨rfl,rfl,rfl⟩:=h0;refine⟨?_,?_,?_⟩
  ·simp(maxSteps:=9^7) (disch:=try exact dI) only[push_cast,seval]
  ·exact⟨by simp,by simpa using hR,by simp only;omega,by simp only;omega⟩
  rintro⟨i,L⟩ ⟨hi,hr,hL,hL2⟩
  simp only at hi hr hL hL2
  by_cases hlt:i<ps.length
  ·have hltI:(i:Int)<(ps.length:Int):=by omega
   obtain⟨x,hx⟩:∃ x,ps[i]? = some x:=⟨_,List.getElem?_eq_getElem hlt⟩
   have hxm:=List.mem_of_getElem? hx
   have hcall:=ih x (d+1) L (hpt x hxm) (by omega) hL hL2
   have hleft:=ew (δ:=0) (by decide) n x L hL hL2
   rw[rC hx] at hr
   obtain⟨⟨e1,e2⟩,he⟩:∃ q,q=bO 0 n L x:=⟨_,rfl⟩
   rw[← he] at hcall hleft hr
   simp only at hcall hleft hr
   obtain⟨k',m',M',s',w',e',f'⟩:=x
   simp only[Typ.pv_mk] at hcall
   simp(maxSteps:=9^7) (disch:=try exact dI) only[hx,Option.map_some,Typ.pv_mk,ae,push_cast,seval]
   refine ab.lentK hcall [0] rfl qsZ qsZ ?_
   by_cases he0:e1=0
   ·subst he0
    rw[if_pos rfl] at hr
    simp(maxSteps:=9^7) (disch:=try exact dI) only[hk,push_cast,seval]
    exact⟨(i+1,e2),aT qsZ,⟨by simp only;omega,hr,by simp only;omega,by simp only;omega⟩,by simp only;omega⟩
   ·rw[if_neg he0] at hr
    subst hr
    simp(maxSteps:=9^7) (disch:=try exact dI) only[he0,push_cast,seval]
    exact bd [] qsZ
  ·obtain rfl:i=ps.length:=by omega
   rw[List.drop_length,cn] at hr
   subst hr
   simp(maxSteps:=9^7) (disch:=try exact dI) only[Int.lt_irrefl,push_cast,seval]
   exact bd [] qsZ
 ·rw[if_neg hz]
  refine dz.intro fc (by simp[om]) ?_
  simp(maxSteps:=9^7) (disch:=try exact dI) only[om,hl0,hd8,push_cast,seval]
  refine ab.pure h143 rfl ?_
  simp(maxSteps:=9^7) (disch:=try exact dI) only[hz,push_cast,seval]
  exact bd [] qsZ
end Go.Proofs.YtbojpfpliibfbaaGreatDoor
-- many steps
namespace Go.Proofs.YtbojpfpliibfbaaGreatDoor
open Go Go.Ab
attribute [local irreducible] vc
set_option maxHeartbeats 4000000 in
theorem xh (n:Nat)(ih:HD n)(m M s:Int)(w:List (List UInt8))(e:List Typ)(f:List TFd)(d l:Int)(ht:(Typ.mk 9 m M s w e f).ok)(hdn:d+(n+1:Nat)=9)(hd:1≤d)(hl:0≤l)(hl2:l≤4096)(hl0:¬ l=0) :
  dz Tryz.prog aD 1 123 [.pv (Typ.mk 9 m M s w e f).pv,.pv (.int .i64 d),.ptr 0 0] [.cells 3 true [.pv (.int .i64 l)]] (.pv (.int .i64 (bO 0 (n+1) l (.mk 9 m M s w e f)).1)) [.cells 3 true [.pv (.int .i64 (bO 0 (n+1) l (.mk 9 m M s w e f)).2)]]:=by
 obtain⟨h143,h144,hpt,hpl⟩:=vw ht
 have hown:=bA (k:=9) (m:=m) (M:=M) (s:=s) (w:=w) (e:=e) (f:=f)
 rw[show bC (.mk 9 m M s w e f)=f.map TFd.typ from rfl] at h144 hpt
 rw[Typ.ok_mk] at ht
 have hd8:¬ 8<d:=by omega
 rw[bO,if_neg hl0,if_pos rfl]
 generalize bh (.mk 9 m M s w e f)=z at *
 simp only[Typ.pv_mk] at h143 h144 ⊢
 by_cases hz:z=0
 ·have hfl:=(hown hz).2.2.2
  clear hown
  subst hz
  rw[if_pos rfl]
  obtain⟨R,hR⟩:∃ R,R=bY n (bO 0 n) (l - 1) f:=⟨_,rfl⟩
  rw[← hR]
  refine dz.intro fc (by simp[om]) ?_
  simp(maxSteps:=9^7) (disch:=try exact dI) only[om,hl0,hd8,push_cast,seval]
  refine ab.pure h143 rfl ?_
  simp(maxSteps:=9^7) (disch:=try exact dI) only[push_cast,seval]
  refine ab.pure h144 rfl ?_
  simp(maxSteps:=9^7) (disch:=try exact dI) only[push_cast,seval]
  refine aw ([]) (fun x:Nat×Int=>[(32,.pv (.int .i64 (x.1:Int)))]) (fun x=>[(0,.cells 3 true [.pv (.int .i64 x.2)])]) (fun x=>x.1≤f.length∧R=bY n (bO 0 n) x.2 (f.drop x.1)∧0≤x.2∧x.2≤4096) (fun x=>f.length - x.1) ((0,l - 1)) ?_;intro e0 σ0 n0 h0;simp(maxSteps:=9^7) (disch:=try exact dI) only[push_cast,seval] at h0;obtain⟨rfl,rfl,rfl⟩:=h0;refine⟨?_,?_,?_⟩
  ·simp(maxSteps:=9^7) (disch:=try exact dI) only[push_cast,seval]
  ·exact⟨by simp,by simpa using hR,by simp only;omega,by simp only;omega⟩
  rintro⟨i,L⟩ ⟨hi,hr,hL,hL2⟩
  simp only at hi hr hL hL2
  by_cases hlt:i<f.length
  ·have hltI:(i:Int)<(f.length:Int):=by omega
   obtain⟨g,hg⟩:∃ g,f[i]? = some g:=⟨_,List.getElem?_eq_getElem hlt⟩
   have hgm:=List.mem_of_getElem? hg
   have hgt:=hpt g.typ (List.mem_map_of_mem hgm)
   have hcall:=ih g.typ (d+1) L hgt (by omega) hL hL2
   have hleft:=ew (δ:=0) (by decide) n g.typ L hL hL2
   have hty:=eu (δ:=0) n L g.typ
   have hfe:=bN f [] hfl g hgm
   have hgd:=(df (ht.2.2.2.2.2.2.2.2.2 g hgm)).2
   rw[jQ hg] at hr
   obtain⟨⟨e1,e2⟩,he⟩:∃ q,q=bO 0 n L g.typ:=⟨_,rfl⟩
   rw[← he] at hcall hleft hr hty
   clear he
   obtain⟨n',nm',nd',t',d'⟩:=g
   simp only[TFd.typ,TFd.dflt] at hcall hleft hr hty hgt hgd
   by_cases he0:e1=0
   ·subst he0
    rw[if_pos rfl] at hr
    by_cases h3:nd'=3
    ·subst h3
     obtain⟨b,hb⟩:=hfe
     obtain⟨x,r,rfl⟩:=eJ hb
     have hx1:=hgd x (List.mem_cons_self ..)
     have hacc:=sy n t' x hx1 (fun hc=>iL n (lvl x) t' x (hty rfl) hgt (ow (eE x) hc) hx1)
     simp only[fE,nS,decide_true,Bool.true_and] at hr
     generalize accB n t' x=q at hacc hr
     obtain⟨k',m',M',s',w',e',f'⟩:=t'
     obtain⟨vk,vn,vs,vt,vl,vf⟩:=x
     simp only[Typ.pv_mk,Val.pv_mk] at hcall hacc
     simp(maxSteps:=9^7) (disch:=try exact dI) only[hg,Option.map_some,TFd.typ,Typ.pv_mk,ae,push_cast,seval]
     refine ab.lentK hcall [0] rfl qsZ qsZ ?_
     simp(maxSteps:=9^7) (disch:=try exact dI) only[hg,Option.map_some,TFd.pv_mk,Typ.pv_mk,Val.pv_mk,ae,aK,push_cast,seval]
     refine ab.pure hacc rfl ?_
     cases q with
     | true=>
       rw[if_neg (by decide)] at hr
       simp(maxSteps:=9^7) (disch:=try exact dI) only[push_cast,seval]
       exact⟨(i+1,e2),aT qsZ,⟨by simp only;omega,hr,by simp only;omega,by simp only;omega⟩,by simp only;omega⟩
     | false=>
       rw[if_pos (by decide)] at hr
       subst hr
       simp(maxSteps:=9^7) (disch:=try exact dI) only[push_cast,seval]
       exact bd [] qsZ
    ·rw[if_neg (by simp[fE,h3])] at hr
     obtain⟨k',m',M',s',w',e',f'⟩:=t'
     simp only[Typ.pv_mk] at hcall
     simp(maxSteps:=9^7) (disch:=try exact dI) only[hg,Option.map_some,TFd.typ,Typ.pv_mk,ae,push_cast,seval]
     refine ab.lentK hcall [0] rfl qsZ qsZ ?_
     simp(maxSteps:=9^7) (disch:=try exact dI) only[hg,Option.map_some,TFd.pv_mk,Typ.pv_mk,ae,h3,push_cast,seval]
     exact⟨(i+1,e2),aT qsZ,⟨by simp only;omega,hr,by simp only;omega,by simp only;omega⟩,by simp only;omega⟩
   ·rw[if_neg he0] at hr
    subst hr
    obtain⟨k',m',M',s',w',e',f'⟩:=t'
    simp only[Typ.pv_mk] at hcall
    simp(maxSteps:=9^7) (disch:=try exact dI) only[hg,Option.map_some,TFd.typ,Typ.pv_mk,ae,push_cast,seval]
    refine ab.lentK hcall [0] rfl qsZ qsZ ?_
    simp(maxSteps:=9^7) (disch:=try exact dI) only[he0,push_cast,seval]
    exact bd [] qsZ
  ·obtain rfl:i=f.length:=by omega
   rw[List.drop_length,bY] at hr
   subst hr
   simp(maxSteps:=9^7) (disch:=try exact dI) only[Int.lt_irrefl,push_cast,seval]
   exact bd [] qsZ
 ·rw[if_neg hz]
  refine dz.intro fc (by simp[om]) ?_
  simp(maxSteps:=9^7) (disch:=try exact dI) only[om,hl0,hd8,push_cast,seval]
  refine ab.pure h143 rfl ?_
  simp(maxSteps:=9^7) (disch:=try exact dI) only[hz,push_cast,seval]
  exact bd [] qsZ
theorem xm:∀ n,n≤8→HD n
 | 0,_=>fun t d l ht hd hl hl2=>xj t d l (by omega) hl
 | n+1,hn=>fun t d l ht hd hl hl2=>by
   by_cases hl0:l=0
   ·subst hl0;exact xe n t d
   have ih:=xm n (by omega)
   obtain⟨k,m,M,s,w,e,f⟩:=t
   by_cases hk:k=9
   ·subst hk;exact xh n ih m M s w e f d l ht hd (by omega) hl hl2 hl0
   ·exact xg n ih k m M s w e f d l ht hd (by omega) hl hl2 hl0 hk
end Go.Proofs.YtbojpfpliibfbaaGreatDoor
-- many steps
namespace Go.Proofs.YtbojpfpliibfbaaGreatDoor
open Go Go.Ab
attribute [local irreducible] vc
theorem ft {k m M s:Int}{w:List (List UInt8)}{e:List Typ}{f:List TFd}(h:bh (.mk k m M s w e f)=0):(¬ k=8→e=[])∧(¬ (k=9∨k=10)→f=[]):=by
 rw[bh] at h
 by_cases a:inB k 1 10=false
 ·rw[if_pos a] at h;exact absurd h (by decide)
 rw[if_neg a] at h
 have hr:1≤k∧k≤10:=by simpa[inB] using a
 by_cases b:aQ k (.mk k m M s w e f)=true
 ·rw[if_pos b] at h;exact absurd h (by decide)
 have b':aQ k (.mk k m M s w e f)=false:=by simpa using b
 simp only[aQ,aq,Bool.or_eq_false_iff] at b'
 obtain⟨_,_,_,b4,b5⟩:=b'
 refine⟨fun h8=>?_,fun h9=>?_⟩
 ·rw[decide_eq_false h8] at b4
  exact List.length_eq_zero_iff.1 (by simpa using b4)
 ·have h9':¬ 9≤k:=by omega
  rw[decide_eq_false h9'] at b5
  exact List.length_eq_zero_iff.1 (by simpa using b5)
theorem uV {m M s:Int}{w:List (List UInt8)}{e:List Typ}{f:List TFd}(h:bh (.mk 8 m M s w e f)=0):m≤256:=by
 have hb:=(bA h).2.1
 unfold aB at hb
 rw[if_neg (fun hh=>absurd hh.1 (by decide))] at hb
 by_cases hc:(2≤(8:Int)∧(8:Int)≤8)∧(M<m∨m<loK 8∨hiK 8<M)
 ·rw[if_pos hc] at hb;exact absurd hb (by decide)
 ·have h2:¬ (M<m∨m<loK 8∨hiK 8<M):=fun hh=>hc ⟨by decide,hh⟩
  rw[show hiK 8=256 from rfl] at h2
  omega
theorem uR {m M s:Int}{w:List (List UInt8)}{e:List Typ}{f:List TFd}(h:bh (.mk 10 m M s w e f)=0):∃ g r,f=g::r:=by
 have h1:=(bA h).2.2.1
 cases f with
 | cons g r=>exact⟨g,r,rfl⟩
 | nil=>simp[aF] at h1
theorem C3 {k m M s:Int}{w:List (List UInt8)}{e:List Typ}{f:List TFd}(h:bh (.mk k m M s w e f)=0):f.length≤64:=by
 have h1:=(bA h).2.2.1
 by_cases hc:64<f.length
 ·exfalso
  unfold aF at h1
  repeat' split at h1
  all_goals first | exact absurd h1 (by decide) | omega
 ·omega
theorem pu {n:Nat}{a:Int}{nm:List UInt8}{t:Typ}{x:Val}{r:List Val}(h:fE n (.mk a nm 3 t (x::r))=false)(hx:x.ok):H6 x:=by
 have h1:accB n t x=true:=by simpa[fE,nS] using h
 have h2:Dn x=0:=by simp only[accB,Bool.and_eq_true,decide_eq_true_eq] at h1;exact h1.1
 have:=pD (cy (lvl x) 1 x) 0 (by omega) h2
 exact⟨hx,by omega⟩
theorem gL:∀ (n N:Nat) (t:Typ),n≤N→tyV n t→t.ok→dZ N t
 | 0,_,_,_,h,_=>h.elim
 | _+1,0,_,h,_,_=>absurd h (by omega)
 | n+1,N+1,.mk k m M s w e f,hN,h,ht=>by
   obtain⟨ho,h8,h9⟩:=h
   rw[Typ.ok_mk] at ht
   obtain⟨_,_,_,_,_,_,t3,t5,t4,t6⟩:=ht
   refine⟨fun hk hm=>?_,fun hk=>?_,fun hk=>⟨C3 ho,fun g hg=>?_⟩⟩
   ·subst hk
    obtain⟨x,rfl⟩:=gR ho
    exact⟨uV ho,x,[],rfl,gL n N x (by omega) (h8 rfl x (List.mem_cons_self ..)) (t5 x (List.mem_cons_self ..))⟩
   ·subst hk
    obtain⟨g,r,rfl⟩:=uR ho
    exact⟨g,r,rfl,gL n N g.typ (by omega) (h9 (.inr rfl) g (List.mem_cons_self ..)).1 (df (t6 g (List.mem_cons_self ..))).1⟩
   ·subst hk
    have hs:=gL n N g.typ (by omega) (h9 (.inl rfl) g hg).1 (df (t6 g hg)).1
    obtain⟨b,hb⟩:=bN f [] (bA ho).2.2.2 g hg
    have hd:=(df (t6 g hg)).2
    have hdf:=(h9 (.inl rfl) g hg).2 rfl
    obtain⟨n',nm',nd',t',d'⟩:=g
    refine⟨fun _=>hs,fun h3=>?_⟩
    subst h3
    obtain⟨x,r,rfl⟩:=eJ hb
    exact⟨x,r,rfl,pu hdf (hd x (List.mem_cons_self ..))⟩
theorem xR:∀ (n:Nat) (t:Typ),n≤9→tyV n t→t.ok→JU n t
 | 0,_,_,h,_=>h.elim
 | n+1,.mk k m M s w e f,hN,h,ht=>by
   have hs:=gL (n+1) 9 _ hN h ht
   obtain⟨ho,h8,h9⟩:=h
   obtain⟨he,hf⟩:=ft ho
   rw[Typ.ok_mk] at ht
   obtain⟨_,_,_,_,_,_,t3,t5,t4,t6⟩:=ht
   refine⟨hs,by omega,by omega,fun x hx=>?_,fun g hg=>?_⟩
   ·by_cases hk:k=8
    ·exact xR n x (by omega) (h8 hk x hx) (t5 x hx)
    ·rw[he hk] at hx;cases hx
   ·by_cases hk:k=9∨k=10
    ·exact xR n g.typ (by omega) (h9 hk g hg).1 (df (t6 g hg)).1
    ·rw[hf hk] at hg;cases hg
noncomputable def oA (t:Typ):Int:=if (bO 0 8 4096 t).1=0 then (if 4096<b9 8 t then 9 else 0) else (bO 0 8 4096 t).1
theorem FX (t:Typ)(ht:t.ok):ag Tryz.prog aD 69 [t.pv] (.int .i64 (oA t)):=by
 have h94:=xm 8 (by omega) t 1 4096 ht (by omega) (by omega) (by omega)
 have h95:(bO 0 8 4096 t).1=0→ag Tryz.prog aD 124 [t.pv] (.int .i64 (b9 8 t)):=fun h=>eR 8 t (xR 8 t (by omega) (eu 8 4096 t h) ht)
 simp only[oA]
 obtain⟨⟨z,L⟩,hq⟩:∃ q,q=bO 0 8 4096 t:=⟨_,rfl⟩
 rw[← hq] at h94 h95 ⊢
 simp only at h94 h95 ⊢
 clear hq
 generalize b9 8 t=G at h95 ⊢
 obtain⟨k,m,M,s,w,e,f⟩:=t
 simp only[Typ.pv_mk] at h94 h95
 refine ag.intro Kl (by simp[F69]) ?_
 by_cases hz:z=0
 ·subst hz
  have h95:=h95 rfl
  rw[if_pos rfl]
  by_cases hg:4096<G
  ·rw[if_pos hg]
   simp(maxSteps:=9^7) (disch:=try exact dI) only[F69,Typ.pv_mk,push_cast,seval]
   refine ab.lentK h94 [1] rfl qsZ qsZ ?_
   simp(maxSteps:=9^7) (disch:=try exact dI) only[push_cast,seval]
   refine ab.pure h95 rfl ?_
   simp(maxSteps:=9^7) (disch:=try exact dI) only[hg,push_cast,seval]
  ·rw[if_neg hg]
   simp(maxSteps:=9^7) (disch:=try exact dI) only[F69,Typ.pv_mk,push_cast,seval]
   refine ab.lentK h94 [1] rfl qsZ qsZ ?_
   simp(maxSteps:=9^7) (disch:=try exact dI) only[push_cast,seval]
   refine ab.pure h95 rfl ?_
   simp(maxSteps:=9^7) (disch:=try exact dI) only[hg,push_cast,seval]
 ·rw[if_neg hz]
  simp(maxSteps:=9^7) (disch:=try exact dI) only[F69,Typ.pv_mk,push_cast,seval]
  refine ab.lentK h94 [1] rfl qsZ qsZ ?_
  simp(maxSteps:=9^7) (disch:=try exact dI) only[hz,push_cast,seval]
end Go.Proofs.YtbojpfpliibfbaaGreatDoor
namespace Go.Ab
open Go
def Ma (y:Int):Bool:=decide (y % 4=0)&&(!decide (y % 100=0)||decide (y % 400=0))
def mdI (y m:Int):Int:=if m=2 then (if Ma y=true then 29 else 28) else if m=4∨m=6∨m=9∨m=11 then 30 else 31
structure DateOk (y:Int)(m:Nat)(d:Int):Prop where
 y1:1≤y
 y2:y≤9999
 m1:1≤m
 m2:m≤12
 d1:1≤d
 d2:d≤mdI y m
end Go.Ab
-- many steps
namespace Go.Proofs.YtbojpfpliibfbaaGreatDoor
open Go Go.Ab
attribute [local irreducible] vc
end Go.Proofs.YtbojpfpliibfbaaGreatDoor
-- many steps
namespace Go.Proofs.YtbojpfpliibfbaaGreatDoor
open Go Go.Ab
open Nat renaming reduceEqDiff→qa,reduceAdd→qb,reduceMul→qc,reduceLeDiff→qd,reduceLT→qe,reduceBEq→qf,reduceSub→qg
open Int renaming reduceToNat→qh,reduceNeg→qi
attribute [local irreducible] vc
end Go.Proofs.YtbojpfpliibfbaaGreatDoor
-- many steps
namespace Go.Proofs.YtbojpfpliibfbaaGreatDoor
open Go Go.Ab
attribute [local irreducible] vc
end Go.Proofs.YtbojpfpliibfbaaGreatDoor
-- many steps
namespace Go.Proofs.YtbojpfpliibfbaaGreatDoor
open Go Go.Ab
attribute [local irreducible] vc
end Go.Proofs.YtbojpfpliibfbaaGreatDoor
