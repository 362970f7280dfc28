/- A part of the proof for DelimitedRepresentableCardSaid. -/
import Derived.Test.YtbaaokocnegdoaaGreatDoorRepVSd
set_option maxRecDepth 100000
set_option linter.unusedVariables false
set_option linter.unusedSimpArgs false
-- many steps
namespace Go.Proofs.YtbaaokocnegdoaaGreatDoor
open Go Go.Ab
attribute [local irreducible] vc
def dN (rec:Int→Typ→Int×Int):Int→List Typ→Int×Int
 | l,[]=>(0,l)
 | l,t::r=>if (rec l t).1=0 then dN rec (rec l t).2 r else rec l t
def mK (n:Nat):TFd→Bool
 | .mk _ _ nd t d=>decide (nd=3)&&!(sZ (accB n t) d)
def dz (n:Nat)(rec:Int→Typ→Int×Int):Int→List TFd→Int×Int
 | l,[]=>(0,l)
 | l,g::r=>if (rec l g.typ).1=0 then (if mK n g=true then (18,(rec l g.typ).2) else dz n rec (rec l g.typ).2 r) else rec l g.typ
def du:Nat→Int→Typ→Int×Int
 | 0,l,_=>(0,l)
 | n+1,l,.mk k m M s w e f=>if bA (.mk k m M s w e f)=0 then (if k=9 then dz n (du n) (l - 1) f else dN (du n) (l - 1) (ba (.mk k m M s w e f))) else (bA (.mk k m M s w e f),l - 1)
theorem sU {rec:Int→Typ→Int×Int}{ps:List Typ}{i:Nat}{t:Typ}(h:ps[i]? = some t)(l:Int):dN rec l (ps.drop i)=if (rec l t).1=0 then dN rec (rec l t).2 (ps.drop (i+1)) else rec l t:=by
 have hi:=(List.getElem?_eq_some_iff.1 h).1
 have he:ps[i]=t:=(List.getElem?_eq_some_iff.1 h).2
 rw[List.drop_eq_getElem_cons hi,he,dN]
theorem jX {n:Nat}{rec:Int→Typ→Int×Int}{ps:List TFd}{i:Nat}{g:TFd}(h:ps[i]? = some g)(l:Int):dz n rec l (ps.drop i)=if (rec l g.typ).1=0 then (if mK n g=true then (18,(rec l g.typ).2) else dz n rec (rec l g.typ).2 (ps.drop (i+1))) else rec l g.typ:=by
 have hi:=(List.getElem?_eq_some_iff.1 h).1
 have he:ps[i]=g:=(List.getElem?_eq_some_iff.1 h).2
 rw[List.drop_eq_getElem_cons hi,he,dz]
theorem iY {rec:Int→Typ→Int×Int}:∀ (ps:List Typ) (l:Int),(dN rec l ps).1=0→∀ t∈ps,∃ l,(rec l t).1=0
 | [],_,_,_,h=>by cases h
 | x::r,l,h,t,ht=>by
   rw[dN] at h
   by_cases h0:(rec l x).1=0
   ·rw[if_pos h0] at h
    rcases List.mem_cons.1 ht with rfl | ht
    ·exact⟨l,h0⟩
    ·exact iY r _ h t ht
   ·rw[if_neg h0] at h;exact absurd h h0
theorem mz {n:Nat}{rec:Int→Typ→Int×Int}:∀ (ps:List TFd) (l:Int),(dz n rec l ps).1=0→∀ g∈ps,∃ l,(rec l g.typ).1=0
 | [],_,_,_,h=>by cases h
 | x::r,l,h,t,ht=>by
   rw[dz] at h
   by_cases h0:(rec l x.typ).1=0
   ·rw[if_pos h0] at h
    by_cases hd:mK n x=true
    ·rw[if_pos hd] at h;exact absurd h (show ¬ (18:Int)=0 by decide)
    ·rw[if_neg hd] at h
     rcases List.mem_cons.1 ht with rfl | ht
     ·exact⟨l,h0⟩
     ·exact mz r _ h t ht
   ·rw[if_neg h0] at h;exact absurd h h0
def aN:Nat→Typ→Prop
 | 0,_=>False
 | n+1,.mk _ _ _ _ _ e f=>e.length≤6∧f.length≤6∧(∀ x∈e,aN n x)∧∀ g∈f,aN n g.typ
theorem fe:∀ (n:Nat) (l:Int) (t:Typ),aN n t→(du n l t).1=0→tyV n t
 | 0,_,_,hn,_=>hn.elim
 | n+1,l,.mk k m M s w e f,hn,h=>by
   simp only[aN] at hn
   rw[du] at h
   by_cases ho:bA (.mk k m M s w e f)=0
   ·rw[if_pos ho] at h
    refine⟨ho,fun h8 x hx=>?_,fun h9 g hg=>?_⟩
    ·subst h8
     rw[if_neg (by decide)] at h
     obtain⟨l',hl'⟩:=iY _ _ h x hx
     exact fe n l' x (hn.2.2.1 x hx) hl'
    ·by_cases hk:k=9
     ·subst hk
      rw[if_pos rfl] at h
      obtain⟨l',hl'⟩:=mz _ _ h g hg
      exact fe n l' g.typ (hn.2.2.2 g hg) hl'
     ·have hk10:k=10:=by omega
      subst hk10
      rw[if_neg (by decide)] at h
      obtain⟨l',hl'⟩:=iY _ _ h g.typ (List.mem_map_of_mem hg)
      exact fe n l' g.typ (hn.2.2.2 g hg) hl'
   ·rw[if_neg ho] at h;exact absurd h ho
def hZ:Nat→Int
 | 0=>0
 | n+1=>1+6*hZ n
theorem eL:∀ n,0≤hZ n
 | 0=>by simp[hZ]
 | n+1=>by have:=eL n;simp only[hZ];omega
def jx {α:Type}(c:Int)(l:List α):Int:=(l.length:Int)*c
theorem iE {α:Type}{c:Int}(hc:0≤c){ps:List α}{i:Nat}{t:α}(h:ps[i]? = some t):jx c (ps.drop i)=jx c (ps.drop (i+1))+c∧0≤jx c (ps.drop (i+1)):=by
 have hi:=(List.getElem?_eq_some_iff.1 h).1
 rw[List.drop_eq_getElem_cons hi]
 refine⟨?_,Int.mul_nonneg (by omega) hc⟩
 simp only[jx,List.length_cons]
 rw[show ((((ps.drop (i+1)).length+1:Nat)):Int)=((ps.drop (i+1)).length:Int)+1 by push_cast;rfl,Int.add_mul,Int.one_mul]
theorem lF {α:Type}{c:Int}(hc:0≤c)(x:α)(r:List α):jx c (x::r)=jx c r+c∧0≤jx c r:=by
 refine⟨?_,Int.mul_nonneg (by omega) hc⟩
 simp only[jx,List.length_cons]
 rw[show (((r.length+1:Nat)):Int)=(r.length:Int)+1 by push_cast;rfl,Int.add_mul,Int.one_mul]
def Aj (c:Int)(rec:Int→Typ→Int×Int)(t:Typ):Prop:=∀ l,c≤l→l - c≤(rec l t).2∧(rec l t).2≤l
theorem jT {c:Int}(hc:0≤c){rec:Int→Typ→Int×Int}:∀ (ps:List Typ) (l:Int),(∀ t∈ps,Aj c rec t)→jx c ps≤l→l - jx c ps≤(dN rec l ps).2∧(dN rec l ps).2≤l
 | [],l,_,_=>by simp[dN,jx]
 | x::r,l,h,hl=>by
   have h1:=lF hc x r
   have h2:=h x (List.mem_cons_self ..) l (by omega)
   rw[dN]
   split
   ·have h3:=jT hc r (rec l x).2 (fun t ht=>h t (List.mem_cons_of_mem _ ht)) (by omega)
    omega
   ·omega
theorem jY {n:Nat}{c:Int}(hc:0≤c){rec:Int→Typ→Int×Int}:∀ (ps:List TFd) (l:Int),(∀ t∈ps,Aj c rec t.typ)→jx c ps≤l→l - jx c ps≤(dz n rec l ps).2∧(dz n rec l ps).2≤l
 | [],l,_,_=>by simp[dz,jx]
 | x::r,l,h,hl=>by
   have h1:=lF hc x r
   have h2:=h x (List.mem_cons_self ..) l (by omega)
   rw[dz]
   split
   ·split
    ·simp only;omega
    ·have h3:=jY (n:=n) hc r (rec l x.typ).2 (fun t ht=>h t (List.mem_cons_of_mem _ ht)) (by omega)
     omega
   ·omega
theorem iF {α:Type}{c:Int}(hc:0≤c){l:List α}(h:l.length≤6):jx c l≤6*c:=Int.mul_le_mul_of_nonneg_right (by omega) hc
theorem fC {n:Nat}{k m M s:Int}{w:List (List UInt8)}{e:List Typ}{f:List TFd}(h:aN (n+1) (.mk k m M s w e f)):(ba (.mk k m M s w e f)).length≤6∧∀ x∈ba (.mk k m M s w e f),aN n x:=by
 simp only[aN] at h
 by_cases h8:k=8
 ·rw[show ba (.mk k m M s w e f)=e from if_pos h8]
  exact⟨h.1,h.2.2.1⟩
 ·by_cases h9:k=9∨k=10
  ·rw[show ba (.mk k m M s w e f)=f.map TFd.typ by simp only[ba];rw[if_neg h8,if_pos h9]]
   refine⟨by rw[List.length_map];exact h.2.1,fun x hx=>?_⟩
   obtain⟨g,hg,rfl⟩:=List.mem_map.1 hx
   exact h.2.2.2 g hg
  ·rw[show ba (.mk k m M s w e f)=[] by simp only[ba];rw[if_neg h8,if_neg h9]]
   exact⟨by simp,fun x hx=>by cases hx⟩
theorem en:∀ (n:Nat) (t:Typ),aN n t→Aj (hZ n) (du n) t
 | 0,_,h=>h.elim
 | n+1,.mk k m M s w e f,h=>fun l hl=>by
   have hc:=eL n
   obtain⟨hp1,hp2⟩:=fC h
   simp only[aN] at h
   rw[hZ] at hl ⊢
   rw[du]
   split
   ·split
    ·have h1:=iF hc h.2.1
     have:=jY (n:=n) hc f (l - 1) (fun g hg=>en n g.typ (h.2.2.2 g hg)) (by omega)
     omega
    ·have h1:=iF hc hp1
     have:=jT hc _ (l - 1) (fun x hx=>en n x (hp2 x hx)) (by omega)
     omega
   ·simp only;omega
theorem bL {k:Int}:∀ (f b:List TFd),au k b f=0→∀ g∈f,∃ b,bw k b g=0
 | [],_,_,_,h=>by cases h
 | x::r,b,h,g,hg=>by
   rw[au] at h
   by_cases h0:bw k b x=0
   ·rw[if_pos h0] at h
    rcases List.mem_cons.1 hg with rfl | hg
    ·exact⟨b,h0⟩
    ·exact bL r _ h g hg
   ·rw[if_neg h0] at h;exact absurd h h0
theorem eK {k:Int}{b:List TFd}{n:Int}{nm:List UInt8}{t:Typ}{d:List Val}(h:bw k b (.mk n nm 3 t d)=0):∃ x r,d=x::r:=by
 cases d with
 | cons x r=>exact⟨x,r,rfl⟩
 | nil=>
   simp only[bw,List.length_nil,true_and,if_true] at h
   repeat' split at h
   all_goals first | exact absurd h (by decide) | skip
end Go.Proofs.YtbaaokocnegdoaaGreatDoor
set_option maxRecDepth 100000
set_option linter.unusedVariables false
set_option linter.unusedSimpArgs false
-- many steps
namespace Go.Proofs.YtbaaokocnegdoaaGreatDoor
open Go Go.Ab
attribute [local irreducible] vc
def Jk (n:Nat):Prop:=∀ (t:Typ) (d l:Int),bm n t→aN n t→0≤d→d+n≤9→hZ n≤l→l≤4096 →
 fi Tryz.prog aD 1 94 [.pv t.pv,.pv (.int .i64 d),.ptr 0 0] [.cells 3 true [.pv (.int .i64 l)]] (.pv (.int .i64 (du n l t).1)) [.cells 3 true [.pv (.int .i64 (du n l t).2)]]
theorem kg {n:Nat}{k m M s:Int}{w:List (List UInt8)}{e:List Typ}{f:List TFd}(h:bm (n+1) (.mk k m M s w e f)):ak Tryz.prog aD 143 [(Typ.mk k m M s w e f).pv] (.int .i64 (bA (.mk k m M s w e f)))∧ak Tryz.prog aD 144 [(Typ.mk k m M s w e f).pv] (.list ((ba (.mk k m M s w e f)).map Typ.pv))∧∀ x∈ba (.mk k m M s w e f),bm n x:=by
 simp only[bm] at h
 obtain⟨h1,h2,h3,h4,h5,h6⟩:=h
 refine⟨Km m M s w e f k (fun x hx=>by have:=h2 x hx;omega) (by omega),Ch k m M s w e f (by omega),?_⟩
 by_cases h8:k=8
 ·rw[show ba (.mk k m M s w e f)=e from if_pos h8]
  exact h5
 ·by_cases h9:k=9∨k=10
  ·rw[show ba (.mk k m M s w e f)=f.map TFd.typ by simp only[ba];rw[if_neg h8,if_pos h9]]
   intro x hx
   obtain⟨g,hg,rfl⟩:=List.mem_map.1 hx
   exact (h6 g hg).2.2
  ·rw[show ba (.mk k m M s w e f)=[] by simp only[ba];rw[if_neg h8,if_neg h9]]
   intro x hx;cases hx
set_option maxHeartbeats 4000000 in
theorem zn (n:Nat)(ih:Jk n)(k m M s:Int)(w:List (List UInt8))(e:List Typ)(f:List TFd)(d l:Int)(ht:bm (n+1) (.mk k m M s w e f))(hn:aN (n+1) (.mk k m M s w e f))(hd:0≤d)(hdn:d+(n+1:Nat)≤9)(hl:hZ (n+1)≤l)(hl2:l≤4096)(hk:¬ k=9) :
  fi Tryz.prog aD 1 94 [.pv (Typ.mk k m M s w e f).pv,.pv (.int .i64 d),.ptr 0 0] [.cells 3 true [.pv (.int .i64 l)]] (.pv (.int .i64 (du (n+1) l (.mk k m M s w e f)).1)) [.cells 3 true [.pv (.int .i64 (du (n+1) l (.mk k m M s w e f)).2)]]:=by
 obtain⟨h143,h144,hpt⟩:=kg ht
 obtain⟨hp6,hpn⟩:=fC hn
 have hc0:=eL n
 have hrem:=iF hc0 hp6
 rw[hZ] at hl
 have hl0:¬ l=0:=by omega
 have hd8:¬ 8<d:=by omega
 rw[du,if_neg hk]
 generalize ba (.mk k m M s w e f)=ps at *
 generalize bA (.mk k m M s w e f)=z at *
 simp only[Typ.pv_mk] at h143 h144 ⊢
 by_cases hz:z=0
 ·subst hz
  rw[if_pos rfl]
  obtain⟨R,hR⟩:∃ R,R=dN (du n) (l - 1) ps:=⟨_,rfl⟩
  rw[← hR]
  refine fi.intro ib (by simp[k8]) ?_
  simp(maxSteps:=9^7) (disch:=first|exact dI|fail) only[k8,hl0,hd8,push_cast,seval]
  refine ab.pure h143 rfl ?_
  simp(maxSteps:=9^7) (disch:=first|exact dI|fail) only[push_cast,seval]
  refine ab.pure h144 rfl ?_
  simp(maxSteps:=9^7) (disch:=first|exact dI|fail) only[push_cast,seval]
  refine aB ([]) (fun x:Nat×Int=>[(32,.pv (.int .i64 (x.1:Int)))]) (fun x=>[(0,.cells 3 true [.pv (.int .i64 x.2)])]) (fun x=>x.1≤ps.length∧R=dN (du n) x.2 (ps.drop x.1)∧jx (hZ n) (ps.drop x.1)≤x.2∧x.2≤4096) (fun x=>ps.length - x.1) ((0,l - 1)) ?_;intro e0 σ0 n0 h0;simp(maxSteps:=9^7) (disch:=first|exact dI|fail) only[push_cast,seval] at h0;obtain⟨rfl,rfl,rfl⟩:=h0;refine⟨?_,?_,?_⟩
  ·simp(maxSteps:=9^7) (disch:=first|exact dI|fail) only[push_cast,seval]
  ·exact⟨by simp,by simpa using hR,by simpa using (show jx (hZ n) ps≤l - 1 by omega),by simp only;omega⟩
  rintro⟨i,L⟩ ⟨hi,hr,hL,hL2⟩
  simp only at hi hr hL hL2
  by_cases hlt:i<ps.length
  ·have hltI:(i:Int)<(ps.length:Int):=by omega
   obtain⟨x,hx⟩:∃ x,ps[i]? = some x:=⟨_,List.getElem?_eq_getElem hlt⟩
   have hxm:=List.mem_of_getElem? hx
   obtain⟨hr1,hr2⟩:=iE hc0 hx
   have hcall:=ih x (d+1) L (hpt x hxm) (hpn x hxm) (by omega) (by omega) (by omega) hL2
   have hleft:=en n x (hpn x hxm) L (by omega)
   rw[sU hx] at hr
   obtain⟨⟨e1,e2⟩,he⟩:∃ q,q=du n L x:=⟨_,rfl⟩
   rw[← he] at hcall hleft hr
   simp only at hcall hleft hr
   obtain⟨k',m',M',s',w',e',f'⟩:=x
   simp only[Typ.pv_mk] at hcall
   simp(maxSteps:=9^7) (disch:=first|exact dI|fail) only[hx,Option.map_some,Typ.pv_mk,ae,push_cast,seval]
   refine ab.lentK hcall [0] rfl (by simp(maxSteps:=9^7) (disch:=first|exact dI|fail) only[push_cast,seval]) (by simp(maxSteps:=9^7) (disch:=first|exact dI|fail) only[push_cast,seval]) ?_
   by_cases he0:e1=0
   ·subst he0
    rw[if_pos rfl] at hr
    simp(maxSteps:=9^7) (disch:=first|exact dI|fail) only[hk,push_cast,seval]
    exact⟨(i+1,e2),bg (by simp(maxSteps:=9^7) (disch:=first|exact dI|fail) only[push_cast,seval]),⟨by simp only;omega,hr,by simp only;omega,by simp only;omega⟩,by simp only;omega⟩
   ·rw[if_neg he0] at hr
    subst hr
    simp(maxSteps:=9^7) (disch:=first|exact dI|fail) only[he0,push_cast,seval]
    exact bN [] (by simp(maxSteps:=9^7) (disch:=first|exact dI|fail) only[push_cast,seval])
  ·obtain rfl:i=ps.length:=by omega
   rw[List.drop_length,dN] at hr
   subst hr
   simp(maxSteps:=9^7) (disch:=first|exact dI|fail) only[Int.lt_irrefl,push_cast,seval]
   exact bN [] (by simp(maxSteps:=9^7) (disch:=first|exact dI|fail) only[push_cast,seval])
 ·rw[if_neg hz]
  refine fi.intro ib (by simp[k8]) ?_
  simp(maxSteps:=9^7) (disch:=first|exact dI|fail) only[k8,hl0,hd8,push_cast,seval]
  refine ab.pure h143 rfl ?_
  simp(maxSteps:=9^7) (disch:=first|exact dI|fail) only[hz,push_cast,seval]
  exact bN [] (by simp(maxSteps:=9^7) (disch:=first|exact dI|fail) only[push_cast,seval])
end Go.Proofs.YtbaaokocnegdoaaGreatDoor
set_option maxRecDepth 100000
set_option linter.unusedVariables false
set_option linter.unusedSimpArgs false
-- many steps
namespace Go.Proofs.YtbaaokocnegdoaaGreatDoor
open Go Go.Ab
attribute [local irreducible] vc
set_option maxHeartbeats 4000000 in
theorem zo (n:Nat)(ih:Jk n)(m M s:Int)(w:List (List UInt8))(e:List Typ)(f:List TFd)(d l:Int)(ht:bm (n+1) (.mk 9 m M s w e f))(hn:aN (n+1) (.mk 9 m M s w e f))(hd:0≤d)(hdn:d+(n+1:Nat)≤9)(hl:hZ (n+1)≤l)(hl2:l≤4096) :
  fi Tryz.prog aD 1 94 [.pv (Typ.mk 9 m M s w e f).pv,.pv (.int .i64 d),.ptr 0 0] [.cells 3 true [.pv (.int .i64 l)]] (.pv (.int .i64 (du (n+1) l (.mk 9 m M s w e f)).1)) [.cells 3 true [.pv (.int .i64 (du (n+1) l (.mk 9 m M s w e f)).2)]]:=by
 obtain⟨h143,h144,hpt⟩:=kg ht
 have hown:=bS (k:=9) (m:=m) (M:=M) (s:=s) (w:=w) (e:=e) (f:=f)
 rw[show ba (.mk 9 m M s w e f)=f.map TFd.typ from rfl] at h144 hpt
 simp only[bm] at ht
 simp only[aN] at hn
 have hc0:=eL n
 have hrem:=iF hc0 hn.2.1
 rw[hZ] at hl
 have hl0:¬ l=0:=by omega
 have hd8:¬ 8<d:=by omega
 rw[du,if_pos rfl]
 generalize bA (.mk 9 m M s w e f)=z at *
 simp only[Typ.pv_mk] at h143 h144 ⊢
 by_cases hz:z=0
 ·have hfl:=(hown hz).2.2.2
  clear hown
  subst hz
  rw[if_pos rfl]
  obtain⟨R,hR⟩:∃ R,R=dz n (du n) (l - 1) f:=⟨_,rfl⟩
  rw[← hR]
  refine fi.intro ib (by simp[k8]) ?_
  simp(maxSteps:=9^7) (disch:=first|exact dI|fail) only[k8,hl0,hd8,push_cast,seval]
  refine ab.pure h143 rfl ?_
  simp(maxSteps:=9^7) (disch:=first|exact dI|fail) only[push_cast,seval]
  refine ab.pure h144 rfl ?_
  simp(maxSteps:=9^7) (disch:=first|exact dI|fail) only[push_cast,seval]
  refine aB ([]) (fun x:Nat×Int=>[(32,.pv (.int .i64 (x.1:Int)))]) (fun x=>[(0,.cells 3 true [.pv (.int .i64 x.2)])]) (fun x=>x.1≤f.length∧R=dz n (du n) x.2 (f.drop x.1)∧jx (hZ n) (f.drop x.1)≤x.2∧x.2≤4096) (fun x=>f.length - x.1) ((0,l - 1)) ?_;intro e0 σ0 n0 h0;simp(maxSteps:=9^7) (disch:=first|exact dI|fail) only[push_cast,seval] at h0;obtain⟨rfl,rfl,rfl⟩:=h0;refine⟨?_,?_,?_⟩
  ·simp(maxSteps:=9^7) (disch:=first|exact dI|fail) only[push_cast,seval]
  ·exact⟨by simp,by simpa using hR,by simpa using (show jx (hZ n) f≤l - 1 by omega),by simp only;omega⟩
  rintro⟨i,L⟩ ⟨hi,hr,hL,hL2⟩
  simp only at hi hr hL hL2
  by_cases hlt:i<f.length
  ·have hltI:(i:Int)<(f.length:Int):=by omega
   obtain⟨g,hg⟩:∃ g,f[i]? = some g:=⟨_,List.getElem?_eq_getElem hlt⟩
   have hgm:=List.mem_of_getElem? hg
   obtain⟨hr1,hr2⟩:=iE hc0 hg
   have hgt:=hpt g.typ (List.mem_map_of_mem hgm)
   have hgn:=hn.2.2.2 g hgm
   have hcall:=ih g.typ (d+1) L hgt hgn (by omega) (by omega) (by omega) hL2
   have hleft:=en n g.typ hgn L (by omega)
   have hty:=fe n L g.typ hgn
   have hfe:=bL f [] hfl g hgm
   have hgd:=(ht.2.2.2.2.2 g hgm).2.1
   rw[jX hg] at hr
   obtain⟨⟨e1,e2⟩,he⟩:∃ q,q=du n L g.typ:=⟨_,rfl⟩
   rw[← he] at hcall hleft hr hty
   clear he
   obtain⟨n',nm',nd',t',d'⟩:=g
   simp only[TFd.typ,TFd.dflt] at hcall hleft hr hty hgt hgn hgd
   by_cases he0:e1=0
   ·subst he0
    rw[if_pos rfl] at hr
    by_cases h3:nd'=3
    ·subst h3
     obtain⟨b,hb⟩:=hfe
     obtain⟨x,r,rfl⟩:=eK hb
     obtain⟨hx1,hx2,hx3⟩:=hgd x (List.mem_cons_self ..)
     have hacc:=uc n t' x hx2 hx1.1 (fun hc=>i6 n 9 t' x (hty rfl) hgt (pB hx2 hc) hx1)
     simp only[mK,sZ,decide_true,Bool.true_and] at hr
     generalize accB n t' x=q at hacc hr
     obtain⟨k',m',M',s',w',e',f'⟩:=t'
     obtain⟨vk,vn,vs,vt,vl,vf⟩:=x
     simp only[Typ.pv_mk,Val.pv_mk] at hcall hacc
     simp(maxSteps:=9^7) (disch:=first|exact dI|fail) only[hg,Option.map_some,TFd.typ,Typ.pv_mk,ae,push_cast,seval]
     refine ab.lentK hcall [0] rfl (by simp(maxSteps:=9^7) (disch:=first|exact dI|fail) only[push_cast,seval]) (by simp(maxSteps:=9^7) (disch:=first|exact dI|fail) only[push_cast,seval]) ?_
     simp(maxSteps:=9^7) (disch:=first|exact dI|fail) only[hg,Option.map_some,TFd.pv_mk,Typ.pv_mk,Val.pv_mk,ae,aO,push_cast,seval]
     refine ab.pure hacc rfl ?_
     cases q with
     | true=>
       rw[if_neg (by decide)] at hr
       simp(maxSteps:=9^7) (disch:=first|exact dI|fail) only[push_cast,seval]
       exact⟨(i+1,e2),bg (by simp(maxSteps:=9^7) (disch:=first|exact dI|fail) only[push_cast,seval]),⟨by simp only;omega,hr,by simp only;omega,by simp only;omega⟩,by simp only;omega⟩
     | false=>
       rw[if_pos (by decide)] at hr
       subst hr
       simp(maxSteps:=9^7) (disch:=first|exact dI|fail) only[push_cast,seval]
       exact bN [] (by simp(maxSteps:=9^7) (disch:=first|exact dI|fail) only[push_cast,seval])
    ·rw[if_neg (by simp[mK,h3])] at hr
     obtain⟨k',m',M',s',w',e',f'⟩:=t'
     simp only[Typ.pv_mk] at hcall
     simp(maxSteps:=9^7) (disch:=first|exact dI|fail) only[hg,Option.map_some,TFd.typ,Typ.pv_mk,ae,push_cast,seval]
     refine ab.lentK hcall [0] rfl (by simp(maxSteps:=9^7) (disch:=first|exact dI|fail) only[push_cast,seval]) (by simp(maxSteps:=9^7) (disch:=first|exact dI|fail) only[push_cast,seval]) ?_
     simp(maxSteps:=9^7) (disch:=first|exact dI|fail) only[hg,Option.map_some,TFd.pv_mk,Typ.pv_mk,ae,h3,push_cast,seval]
     exact⟨(i+1,e2),bg (by simp(maxSteps:=9^7) (disch:=first|exact dI|fail) only[push_cast,seval]),⟨by simp only;omega,hr,by simp only;omega,by simp only;omega⟩,by simp only;omega⟩
   ·rw[if_neg he0] at hr
    subst hr
    obtain⟨k',m',M',s',w',e',f'⟩:=t'
    simp only[Typ.pv_mk] at hcall
    simp(maxSteps:=9^7) (disch:=first|exact dI|fail) only[hg,Option.map_some,TFd.typ,Typ.pv_mk,ae,push_cast,seval]
    refine ab.lentK hcall [0] rfl (by simp(maxSteps:=9^7) (disch:=first|exact dI|fail) only[push_cast,seval]) (by simp(maxSteps:=9^7) (disch:=first|exact dI|fail) only[push_cast,seval]) ?_
    simp(maxSteps:=9^7) (disch:=first|exact dI|fail) only[he0,push_cast,seval]
    exact bN [] (by simp(maxSteps:=9^7) (disch:=first|exact dI|fail) only[push_cast,seval])
  ·obtain rfl:i=f.length:=by omega
   rw[List.drop_length,dz] at hr
   subst hr
   simp(maxSteps:=9^7) (disch:=first|exact dI|fail) only[Int.lt_irrefl,push_cast,seval]
   exact bN [] (by simp(maxSteps:=9^7) (disch:=first|exact dI|fail) only[push_cast,seval])
 ·rw[if_neg hz]
  refine fi.intro ib (by simp[k8]) ?_
  simp(maxSteps:=9^7) (disch:=first|exact dI|fail) only[k8,hl0,hd8,push_cast,seval]
  refine ab.pure h143 rfl ?_
  simp(maxSteps:=9^7) (disch:=first|exact dI|fail) only[hz,push_cast,seval]
  exact bN [] (by simp(maxSteps:=9^7) (disch:=first|exact dI|fail) only[push_cast,seval])
theorem zp:∀ n,Jk n
 | 0=>fun _ _ _ h=>h.elim
 | n+1=>fun t d l ht hn hd hdn hl hl2=>by
   have ih:=zp n
   obtain⟨k,m,M,s,w,e,f⟩:=t
   by_cases hk:k=9
   ·subst hk;exact zo n ih m M s w e f d l ht hn hd hdn hl hl2
   ·exact zn n ih k m M s w e f d l ht hn hd hdn hl hl2 hk
end Go.Proofs.YtbaaokocnegdoaaGreatDoor
