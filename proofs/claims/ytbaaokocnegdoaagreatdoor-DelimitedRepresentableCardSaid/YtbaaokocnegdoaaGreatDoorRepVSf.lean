/- A part of the proof for DelimitedRepresentableCardSaid. -/
import Derived.Test.YtbaaokocnegdoaaGreatDoorRepVSd
set_option maxRecDepth 100000
set_option linter.unusedVariables false
set_option linter.unusedSimpArgs false
-- many steps
namespace Go.Proofs.YtbaaokocnegdoaaGreatDoor
open Go Go.Ab
attribute [local irreducible] vc
def d9 (rec:Int→Typ→Int×Int):Int→List Typ→Int×Int
 | l,[]=>(0,l)
 | l,t::r=>if (rec l t).1=0 then d9 rec (rec l t).2 r else rec l t
def nA (n:Nat):TFd→Bool
 | .mk _ _ nd t d=>decide (nd=3)&&!(uc (accB n t) d)
def dN (n:Nat)(rec:Int→Typ→Int×Int):Int→List TFd→Int×Int
 | l,[]=>(0,l)
 | l,g::r=>if (rec l g.typ).1=0 then (if nA n g=true then (18,(rec l g.typ).2) else dN n rec (rec l g.typ).2 r) else rec l g.typ
def dH:Nat→Int→Typ→Int×Int
 | 0,l,_=>(0,l)
 | n+1,l,.mk k m M s w e f=>if bF (.mk k m M s w e f)=0 then (if k=9 then dN n (dH n) (l - 1) f else d9 (dH n) (l - 1) (bh (.mk k m M s w e f))) else (bF (.mk k m M s w e f),l - 1)
theorem tY {rec:Int→Typ→Int×Int}{ps:List Typ}{i:Nat}{t:Typ}(h:ps[i]? = some t)(l:Int):d9 rec l (ps.drop i)=if (rec l t).1=0 then d9 rec (rec l t).2 (ps.drop (i+1)) else rec l t:=by
 have hi:=(List.getElem?_eq_some_iff.1 h).1
 have he:ps[i]=t:=(List.getElem?_eq_some_iff.1 h).2
 rw[List.drop_eq_getElem_cons hi,he,d9]
theorem kw {n:Nat}{rec:Int→Typ→Int×Int}{ps:List TFd}{i:Nat}{g:TFd}(h:ps[i]? = some g)(l:Int):dN n rec l (ps.drop i)=if (rec l g.typ).1=0 then (if nA n g=true then (18,(rec l g.typ).2) else dN n rec (rec l g.typ).2 (ps.drop (i+1))) else rec l g.typ:=by
 have hi:=(List.getElem?_eq_some_iff.1 h).1
 have he:ps[i]=g:=(List.getElem?_eq_some_iff.1 h).2
 rw[List.drop_eq_getElem_cons hi,he,dN]
theorem js {rec:Int→Typ→Int×Int}:∀ (ps:List Typ) (l:Int),(d9 rec l ps).1=0→∀ t∈ps,∃ l,(rec l t).1=0
 | [],_,_,_,h=>by cases h
 | x::r,l,h,t,ht=>by
   rw[d9] at h
   by_cases h0:(rec l x).1=0
   ·rw[if_pos h0] at h
    rcases List.mem_cons.1 ht with rfl | ht
    ·exact⟨l,h0⟩
    ·exact js r _ h t ht
   ·rw[if_neg h0] at h;exact absurd h h0
theorem ni {n:Nat}{rec:Int→Typ→Int×Int}:∀ (ps:List TFd) (l:Int),(dN n rec l ps).1=0→∀ g∈ps,∃ l,(rec l g.typ).1=0
 | [],_,_,_,h=>by cases h
 | x::r,l,h,t,ht=>by
   rw[dN] at h
   by_cases h0:(rec l x.typ).1=0
   ·rw[if_pos h0] at h
    by_cases hd:nA n x=true
    ·rw[if_pos hd] at h;exact absurd h (show ¬ (18:Int)=0 by decide)
    ·rw[if_neg hd] at h
     rcases List.mem_cons.1 ht with rfl | ht
     ·exact⟨l,h0⟩
     ·exact ni r _ h t ht
   ·rw[if_neg h0] at h;exact absurd h h0
def aS:Nat→Typ→Prop
 | 0,_=>False
 | n+1,.mk _ _ _ _ _ e f=>e.length≤6∧f.length≤6∧(∀ x∈e,aS n x)∧∀ g∈f,aS n g.typ
theorem fB:∀ (n:Nat) (l:Int) (t:Typ),aS n t→(dH n l t).1=0→tyV n t
 | 0,_,_,hn,_=>hn.elim
 | n+1,l,.mk k m M s w e f,hn,h=>by
   simp only[aS] at hn
   rw[dH] at h
   by_cases ho:bF (.mk k m M s w e f)=0
   ·rw[if_pos ho] at h
    refine⟨ho,fun h8 x hx=>?_,fun h9 g hg=>?_⟩
    ·subst h8
     rw[if_neg (by decide)] at h
     obtain⟨l',hl'⟩:=js _ _ h x hx
     exact fB n l' x (hn.2.2.1 x hx) hl'
    ·by_cases hk:k=9
     ·subst hk
      rw[if_pos rfl] at h
      obtain⟨l',hl'⟩:=ni _ _ h g hg
      exact fB n l' g.typ (hn.2.2.2 g hg) hl'
     ·have hk10:k=10:=by omega
      subst hk10
      rw[if_neg (by decide)] at h
      obtain⟨l',hl'⟩:=js _ _ h g.typ (List.mem_map_of_mem hg)
      exact fB n l' g.typ (hn.2.2.2 g hg) hl'
   ·rw[if_neg ho] at h;exact absurd h ho
def iE:Nat→Int
 | 0=>0
 | n+1=>1+6*iE n
theorem e7:∀ n,0≤iE n
 | 0=>by simp[iE]
 | n+1=>by have:=e7 n;simp only[iE];omega
def jX {α:Type}(c:Int)(l:List α):Int:=(l.length:Int)*c
theorem i6 {α:Type}{c:Int}(hc:0≤c){ps:List α}{i:Nat}{t:α}(h:ps[i]? = some t):jX c (ps.drop i)=jX c (ps.drop (i+1))+c∧0≤jX c (ps.drop (i+1)):=by
 have hi:=(List.getElem?_eq_some_iff.1 h).1
 rw[List.drop_eq_getElem_cons hi]
 refine⟨?_,Int.mul_nonneg (by omega) hc⟩
 simp only[jX,List.length_cons]
 rw[show ((((ps.drop (i+1)).length+1:Nat)):Int)=((ps.drop (i+1)).length:Int)+1 by push_cast;rfl,Int.add_mul,Int.one_mul]
theorem me {α:Type}{c:Int}(hc:0≤c)(x:α)(r:List α):jX c (x::r)=jX c r+c∧0≤jX c r:=by
 refine⟨?_,Int.mul_nonneg (by omega) hc⟩
 simp only[jX,List.length_cons]
 rw[show (((r.length+1:Nat)):Int)=(r.length:Int)+1 by push_cast;rfl,Int.add_mul,Int.one_mul]
def Bs (c:Int)(rec:Int→Typ→Int×Int)(t:Typ):Prop:=∀ l,c≤l→l - c≤(rec l t).2∧(rec l t).2≤l
theorem kr {c:Int}(hc:0≤c){rec:Int→Typ→Int×Int}:∀ (ps:List Typ) (l:Int),(∀ t∈ps,Bs c rec t)→jX c ps≤l→l - jX c ps≤(d9 rec l ps).2∧(d9 rec l ps).2≤l
 | [],l,_,_=>by simp[d9,jX]
 | x::r,l,h,hl=>by
   have h1:=me hc x r
   have h2:=h x (List.mem_cons_self ..) l (by omega)
   rw[d9]
   split
   ·have h3:=kr hc r (rec l x).2 (fun t ht=>h t (List.mem_cons_of_mem _ ht)) (by omega)
    omega
   ·omega
theorem kx {n:Nat}{c:Int}(hc:0≤c){rec:Int→Typ→Int×Int}:∀ (ps:List TFd) (l:Int),(∀ t∈ps,Bs c rec t.typ)→jX c ps≤l→l - jX c ps≤(dN n rec l ps).2∧(dN n rec l ps).2≤l
 | [],l,_,_=>by simp[dN,jX]
 | x::r,l,h,hl=>by
   have h1:=me hc x r
   have h2:=h x (List.mem_cons_self ..) l (by omega)
   rw[dN]
   split
   ·split
    ·simp only;omega
    ·have h3:=kx (n:=n) hc r (rec l x.typ).2 (fun t ht=>h t (List.mem_cons_of_mem _ ht)) (by omega)
     omega
   ·omega
theorem i7 {α:Type}{c:Int}(hc:0≤c){l:List α}(h:l.length≤6):jX c l≤6*c:=Int.mul_le_mul_of_nonneg_right (by omega) hc
theorem fU {n:Nat}{k m M s:Int}{w:List (List UInt8)}{e:List Typ}{f:List TFd}(h:aS (n+1) (.mk k m M s w e f)):(bh (.mk k m M s w e f)).length≤6∧∀ x∈bh (.mk k m M s w e f),aS n x:=by
 simp only[aS] at h
 by_cases h8:k=8
 ·rw[show bh (.mk k m M s w e f)=e from if_pos h8]
  exact⟨h.1,h.2.2.1⟩
 ·by_cases h9:k=9∨k=10
  ·rw[show bh (.mk k m M s w e f)=f.map TFd.typ by simp only[bh];rw[if_neg h8,if_pos h9]]
   refine⟨by rw[List.length_map];exact h.2.1,fun x hx=>?_⟩
   obtain⟨g,hg,rfl⟩:=List.mem_map.1 hx
   exact h.2.2.2 g hg
  ·rw[show bh (.mk k m M s w e f)=[] by simp only[bh];rw[if_neg h8,if_neg h9]]
   exact⟨by simp,fun x hx=>by cases hx⟩
theorem eG:∀ (n:Nat) (t:Typ),aS n t→Bs (iE n) (dH n) t
 | 0,_,h=>h.elim
 | n+1,.mk k m M s w e f,h=>fun l hl=>by
   have hc:=e7 n
   obtain⟨hp1,hp2⟩:=fU h
   simp only[aS] at h
   rw[iE] at hl ⊢
   rw[dH]
   split
   ·split
    ·have h1:=i7 hc h.2.1
     have:=kx (n:=n) hc f (l - 1) (fun g hg=>eG n g.typ (h.2.2.2 g hg)) (by omega)
     omega
    ·have h1:=i7 hc hp1
     have:=kr hc _ (l - 1) (fun x hx=>eG n x (hp2 x hx)) (by omega)
     omega
   ·simp only;omega
theorem bS {k:Int}:∀ (f b:List TFd),aw k b f=0→∀ g∈f,∃ b,bD k b g=0
 | [],_,_,_,h=>by cases h
 | x::r,b,h,g,hg=>by
   rw[aw] at h
   by_cases h0:bD k b x=0
   ·rw[if_pos h0] at h
    rcases List.mem_cons.1 hg with rfl | hg
    ·exact⟨b,h0⟩
    ·exact bS r _ h g hg
   ·rw[if_neg h0] at h;exact absurd h h0
theorem e6 {k:Int}{b:List TFd}{n:Int}{nm:List UInt8}{t:Typ}{d:List Val}(h:bD k b (.mk n nm 3 t d)=0):∃ x r,d=x::r:=by
 cases d with
 | cons x r=>exact⟨x,r,rfl⟩
 | nil=>
   simp only[bD,List.length_nil,true_and,if_true] at h
   repeat' split at h
   all_goals first | exact absurd h (by decide) | skip
end Go.Proofs.YtbaaokocnegdoaaGreatDoor
set_option maxRecDepth 100000
set_option linter.unusedVariables false
set_option linter.unusedSimpArgs false
-- many steps
namespace Go.Proofs.YtbaaokocnegdoaaGreatDoor
open Go Go.Ab
attribute [local irreducible] vc
def KL (n:Nat):Prop:=∀ (t:Typ) (d l:Int),bt n t→aS n t→0≤d→d+n≤9→iE n≤l→l≤4096 →
 bM Tryz.prog aE 1 94 [.pv t.pv,.pv (.int .i64 d),.ptr 0 0] [.cells 3 true [.pv (.int .i64 l)]] (.pv (.int .i64 (dH n l t).1)) [.cells 3 true [.pv (.int .i64 (dH n l t).2)]]
theorem kP {n:Nat}{k m M s:Int}{w:List (List UInt8)}{e:List Typ}{f:List TFd}(h:bt (n+1) (.mk k m M s w e f)):am Tryz.prog aE 143 [(Typ.mk k m M s w e f).pv] (.int .i64 (bF (.mk k m M s w e f)))∧am Tryz.prog aE 144 [(Typ.mk k m M s w e f).pv] (.list ((bh (.mk k m M s w e f)).map Typ.pv))∧∀ x∈bh (.mk k m M s w e f),bt n x:=by
 simp only[bt] at h
 obtain⟨h1,h2,h3,h4,h5,h6⟩:=h
 refine⟨LP m M s w e f k (fun x hx=>by have:=h2 x hx;omega) (by omega),Dr k m M s w e f (by omega),?_⟩
 by_cases h8:k=8
 ·rw[show bh (.mk k m M s w e f)=e from if_pos h8]
  exact h5
 ·by_cases h9:k=9∨k=10
  ·rw[show bh (.mk k m M s w e f)=f.map TFd.typ by simp only[bh];rw[if_neg h8,if_pos h9]]
   intro x hx
   obtain⟨g,hg,rfl⟩:=List.mem_map.1 hx
   exact (h6 g hg).2.2
  ·rw[show bh (.mk k m M s w e f)=[] by simp only[bh];rw[if_neg h8,if_neg h9]]
   intro x hx;cases hx
set_option maxHeartbeats 4000000 in
theorem AK (n:Nat)(ih:KL n)(k m M s:Int)(w:List (List UInt8))(e:List Typ)(f:List TFd)(d l:Int)(ht:bt (n+1) (.mk k m M s w e f))(hn:aS (n+1) (.mk k m M s w e f))(hd:0≤d)(hdn:d+(n+1:Nat)≤9)(hl:iE (n+1)≤l)(hl2:l≤4096)(hk:¬ k=9) :
  bM Tryz.prog aE 1 94 [.pv (Typ.mk k m M s w e f).pv,.pv (.int .i64 d),.ptr 0 0] [.cells 3 true [.pv (.int .i64 l)]] (.pv (.int .i64 (dH (n+1) l (.mk k m M s w e f)).1)) [.cells 3 true [.pv (.int .i64 (dH (n+1) l (.mk k m M s w e f)).2)]]:=by
 obtain⟨h143,h144,hpt⟩:=kP ht
 obtain⟨hp6,hpn⟩:=fU hn
 have hc0:=e7 n
 have hrem:=i7 hc0 hp6
 rw[iE] at hl
 have hl0:¬ l=0:=by omega
 have hd8:¬ 8<d:=by omega
 rw[dH,if_neg hk]
 generalize bh (.mk k m M s w e f)=ps at *
 generalize bF (.mk k m M s w e f)=z at *
 simp only[Typ.pv_mk] at h143 h144 ⊢
 by_cases hz:z=0
 ·subst hz
  rw[if_pos rfl]
  obtain⟨R,hR⟩:∃ R,R=d9 (dH n) (l - 1) ps:=⟨_,rfl⟩
  rw[← hR]
  refine bM.intro iG (by simp[lL]) ?_
  simp(maxSteps:=9^7) (disch:=first|exact dI|fail) only[lL,hl0,hd8,push_cast,seval]
  refine ab.pure h143 rfl ?_
  simp(maxSteps:=9^7) (disch:=first|exact dI|fail) only[push_cast,seval]
  refine ab.pure h144 rfl ?_
  simp(maxSteps:=9^7) (disch:=first|exact dI|fail) only[push_cast,seval]
  refine aD ([]) (fun x:Nat×Int=>[(32,.pv (.int .i64 (x.1:Int)))]) (fun x=>[(0,.cells 3 true [.pv (.int .i64 x.2)])]) (fun x=>x.1≤ps.length∧R=d9 (dH n) x.2 (ps.drop x.1)∧jX (iE n) (ps.drop x.1)≤x.2∧x.2≤4096) (fun x=>ps.length - x.1) ((0,l - 1)) ?_;intro e0 σ0 n0 h0;simp(maxSteps:=9^7) (disch:=first|exact dI|fail) only[push_cast,seval] at h0;obtain⟨rfl,rfl,rfl⟩:=h0;refine⟨?_,?_,?_⟩
  ·simp(maxSteps:=9^7) (disch:=first|exact dI|fail) only[push_cast,seval]
  ·exact⟨by simp,by simpa using hR,by simpa using (show jX (iE n) ps≤l - 1 by omega),by simp only;omega⟩
  rintro⟨i,L⟩ ⟨hi,hr,hL,hL2⟩
  simp only at hi hr hL hL2
  by_cases hlt:i<ps.length
  ·have hltI:(i:Int)<(ps.length:Int):=by omega
   obtain⟨x,hx⟩:∃ x,ps[i]? = some x:=⟨_,List.getElem?_eq_getElem hlt⟩
   have hxm:=List.mem_of_getElem? hx
   obtain⟨hr1,hr2⟩:=i6 hc0 hx
   have hcall:=ih x (d+1) L (hpt x hxm) (hpn x hxm) (by omega) (by omega) (by omega) hL2
   have hleft:=eG n x (hpn x hxm) L (by omega)
   rw[tY hx] at hr
   obtain⟨⟨e1,e2⟩,he⟩:∃ q,q=dH n L x:=⟨_,rfl⟩
   rw[← he] at hcall hleft hr
   simp only at hcall hleft hr
   obtain⟨k',m',M',s',w',e',f'⟩:=x
   simp only[Typ.pv_mk] at hcall
   simp(maxSteps:=9^7) (disch:=first|exact dI|fail) only[hx,Option.map_some,Typ.pv_mk,ag,push_cast,seval]
   refine ab.lentK hcall [0] rfl (by simp(maxSteps:=9^7) (disch:=first|exact dI|fail) only[push_cast,seval]) (by simp(maxSteps:=9^7) (disch:=first|exact dI|fail) only[push_cast,seval]) ?_
   by_cases he0:e1=0
   ·subst he0
    rw[if_pos rfl] at hr
    simp(maxSteps:=9^7) (disch:=first|exact dI|fail) only[hk,push_cast,seval]
    exact⟨(i+1,e2),bf (by simp(maxSteps:=9^7) (disch:=first|exact dI|fail) only[push_cast,seval]),⟨by simp only;omega,hr,by simp only;omega,by simp only;omega⟩,by simp only;omega⟩
   ·rw[if_neg he0] at hr
    subst hr
    simp(maxSteps:=9^7) (disch:=first|exact dI|fail) only[he0,push_cast,seval]
    exact aJ [] (by simp(maxSteps:=9^7) (disch:=first|exact dI|fail) only[push_cast,seval])
  ·obtain rfl:i=ps.length:=by omega
   rw[List.drop_length,d9] at hr
   subst hr
   simp(maxSteps:=9^7) (disch:=first|exact dI|fail) only[Int.lt_irrefl,push_cast,seval]
   exact aJ [] (by simp(maxSteps:=9^7) (disch:=first|exact dI|fail) only[push_cast,seval])
 ·rw[if_neg hz]
  refine bM.intro iG (by simp[lL]) ?_
  simp(maxSteps:=9^7) (disch:=first|exact dI|fail) only[lL,hl0,hd8,push_cast,seval]
  refine ab.pure h143 rfl ?_
  simp(maxSteps:=9^7) (disch:=first|exact dI|fail) only[hz,push_cast,seval]
  exact aJ [] (by simp(maxSteps:=9^7) (disch:=first|exact dI|fail) only[push_cast,seval])
end Go.Proofs.YtbaaokocnegdoaaGreatDoor
set_option maxRecDepth 100000
set_option linter.unusedVariables false
set_option linter.unusedSimpArgs false
-- many steps
namespace Go.Proofs.YtbaaokocnegdoaaGreatDoor
open Go Go.Ab
attribute [local irreducible] vc
set_option maxHeartbeats 4000000 in
theorem AL (n:Nat)(ih:KL n)(m M s:Int)(w:List (List UInt8))(e:List Typ)(f:List TFd)(d l:Int)(ht:bt (n+1) (.mk 9 m M s w e f))(hn:aS (n+1) (.mk 9 m M s w e f))(hd:0≤d)(hdn:d+(n+1:Nat)≤9)(hl:iE (n+1)≤l)(hl2:l≤4096) :
  bM Tryz.prog aE 1 94 [.pv (Typ.mk 9 m M s w e f).pv,.pv (.int .i64 d),.ptr 0 0] [.cells 3 true [.pv (.int .i64 l)]] (.pv (.int .i64 (dH (n+1) l (.mk 9 m M s w e f)).1)) [.cells 3 true [.pv (.int .i64 (dH (n+1) l (.mk 9 m M s w e f)).2)]]:=by
 obtain⟨h143,h144,hpt⟩:=kP ht
 have hown:=bY (k:=9) (m:=m) (M:=M) (s:=s) (w:=w) (e:=e) (f:=f)
 rw[show bh (.mk 9 m M s w e f)=f.map TFd.typ from rfl] at h144 hpt
 simp only[bt] at ht
 simp only[aS] at hn
 have hc0:=e7 n
 have hrem:=i7 hc0 hn.2.1
 rw[iE] at hl
 have hl0:¬ l=0:=by omega
 have hd8:¬ 8<d:=by omega
 rw[dH,if_pos rfl]
 generalize bF (.mk 9 m M s w e f)=z at *
 simp only[Typ.pv_mk] at h143 h144 ⊢
 by_cases hz:z=0
 ·have hfl:=(hown hz).2.2.2
  clear hown
  subst hz
  rw[if_pos rfl]
  obtain⟨R,hR⟩:∃ R,R=dN n (dH n) (l - 1) f:=⟨_,rfl⟩
  rw[← hR]
  refine bM.intro iG (by simp[lL]) ?_
  simp(maxSteps:=9^7) (disch:=first|exact dI|fail) only[lL,hl0,hd8,push_cast,seval]
  refine ab.pure h143 rfl ?_
  simp(maxSteps:=9^7) (disch:=first|exact dI|fail) only[push_cast,seval]
  refine ab.pure h144 rfl ?_
  simp(maxSteps:=9^7) (disch:=first|exact dI|fail) only[push_cast,seval]
  refine aD ([]) (fun x:Nat×Int=>[(32,.pv (.int .i64 (x.1:Int)))]) (fun x=>[(0,.cells 3 true [.pv (.int .i64 x.2)])]) (fun x=>x.1≤f.length∧R=dN n (dH n) x.2 (f.drop x.1)∧jX (iE n) (f.drop x.1)≤x.2∧x.2≤4096) (fun x=>f.length - x.1) ((0,l - 1)) ?_;intro e0 σ0 n0 h0;simp(maxSteps:=9^7) (disch:=first|exact dI|fail) only[push_cast,seval] at h0;obtain⟨rfl,rfl,rfl⟩:=h0;refine⟨?_,?_,?_⟩
  ·simp(maxSteps:=9^7) (disch:=first|exact dI|fail) only[push_cast,seval]
  ·exact⟨by simp,by simpa using hR,by simpa using (show jX (iE n) f≤l - 1 by omega),by simp only;omega⟩
  rintro⟨i,L⟩ ⟨hi,hr,hL,hL2⟩
  simp only at hi hr hL hL2
  by_cases hlt:i<f.length
  ·have hltI:(i:Int)<(f.length:Int):=by omega
   obtain⟨g,hg⟩:∃ g,f[i]? = some g:=⟨_,List.getElem?_eq_getElem hlt⟩
   have hgm:=List.mem_of_getElem? hg
   obtain⟨hr1,hr2⟩:=i6 hc0 hg
   have hgt:=hpt g.typ (List.mem_map_of_mem hgm)
   have hgn:=hn.2.2.2 g hgm
   have hcall:=ih g.typ (d+1) L hgt hgn (by omega) (by omega) (by omega) hL2
   have hleft:=eG n g.typ hgn L (by omega)
   have hty:=fB n L g.typ hgn
   have hfe:=bS f [] hfl g hgm
   have hgd:=(ht.2.2.2.2.2 g hgm).2.1
   rw[kw hg] at hr
   obtain⟨⟨e1,e2⟩,he⟩:∃ q,q=dH n L g.typ:=⟨_,rfl⟩
   rw[← he] at hcall hleft hr hty
   clear he
   obtain⟨n',nm',nd',t',d'⟩:=g
   simp only[TFd.typ,TFd.dflt] at hcall hleft hr hty hgt hgn hgd
   by_cases he0:e1=0
   ·subst he0
    rw[if_pos rfl] at hr
    by_cases h3:nd'=3
    ·subst h3
     obtain⟨b,hb⟩:=hfe
     obtain⟨x,r,rfl⟩:=e6 hb
     obtain⟨hx1,hx2,hx3⟩:=hgd x (List.mem_cons_self ..)
     have hacc:=vo n t' x hx2 hx1.1 (fun hc=>jv n 9 t' x (hty rfl) hgt (qy hx2 hc) hx1)
     simp only[nA,uc,decide_true,Bool.true_and] at hr
     generalize accB n t' x=q at hacc hr
     obtain⟨k',m',M',s',w',e',f'⟩:=t'
     obtain⟨vk,vn,vs,vt,vl,vf⟩:=x
     simp only[Typ.pv_mk,Val.pv_mk] at hcall hacc
     simp(maxSteps:=9^7) (disch:=first|exact dI|fail) only[hg,Option.map_some,TFd.typ,Typ.pv_mk,ag,push_cast,seval]
     refine ab.lentK hcall [0] rfl (by simp(maxSteps:=9^7) (disch:=first|exact dI|fail) only[push_cast,seval]) (by simp(maxSteps:=9^7) (disch:=first|exact dI|fail) only[push_cast,seval]) ?_
     simp(maxSteps:=9^7) (disch:=first|exact dI|fail) only[hg,Option.map_some,TFd.pv_mk,Typ.pv_mk,Val.pv_mk,ag,aT,push_cast,seval]
     refine ab.pure hacc rfl ?_
     cases q with
     | true=>
       rw[if_neg (by decide)] at hr
       simp(maxSteps:=9^7) (disch:=first|exact dI|fail) only[push_cast,seval]
       exact⟨(i+1,e2),bf (by simp(maxSteps:=9^7) (disch:=first|exact dI|fail) only[push_cast,seval]),⟨by simp only;omega,hr,by simp only;omega,by simp only;omega⟩,by simp only;omega⟩
     | false=>
       rw[if_pos (by decide)] at hr
       subst hr
       simp(maxSteps:=9^7) (disch:=first|exact dI|fail) only[push_cast,seval]
       exact aJ [] (by simp(maxSteps:=9^7) (disch:=first|exact dI|fail) only[push_cast,seval])
    ·rw[if_neg (by simp[nA,h3])] at hr
     obtain⟨k',m',M',s',w',e',f'⟩:=t'
     simp only[Typ.pv_mk] at hcall
     simp(maxSteps:=9^7) (disch:=first|exact dI|fail) only[hg,Option.map_some,TFd.typ,Typ.pv_mk,ag,push_cast,seval]
     refine ab.lentK hcall [0] rfl (by simp(maxSteps:=9^7) (disch:=first|exact dI|fail) only[push_cast,seval]) (by simp(maxSteps:=9^7) (disch:=first|exact dI|fail) only[push_cast,seval]) ?_
     simp(maxSteps:=9^7) (disch:=first|exact dI|fail) only[hg,Option.map_some,TFd.pv_mk,Typ.pv_mk,ag,h3,push_cast,seval]
     exact⟨(i+1,e2),bf (by simp(maxSteps:=9^7) (disch:=first|exact dI|fail) only[push_cast,seval]),⟨by simp only;omega,hr,by simp only;omega,by simp only;omega⟩,by simp only;omega⟩
   ·rw[if_neg he0] at hr
    subst hr
    obtain⟨k',m',M',s',w',e',f'⟩:=t'
    simp only[Typ.pv_mk] at hcall
    simp(maxSteps:=9^7) (disch:=first|exact dI|fail) only[hg,Option.map_some,TFd.typ,Typ.pv_mk,ag,push_cast,seval]
    refine ab.lentK hcall [0] rfl (by simp(maxSteps:=9^7) (disch:=first|exact dI|fail) only[push_cast,seval]) (by simp(maxSteps:=9^7) (disch:=first|exact dI|fail) only[push_cast,seval]) ?_
    simp(maxSteps:=9^7) (disch:=first|exact dI|fail) only[he0,push_cast,seval]
    exact aJ [] (by simp(maxSteps:=9^7) (disch:=first|exact dI|fail) only[push_cast,seval])
  ·obtain rfl:i=f.length:=by omega
   rw[List.drop_length,dN] at hr
   subst hr
   simp(maxSteps:=9^7) (disch:=first|exact dI|fail) only[Int.lt_irrefl,push_cast,seval]
   exact aJ [] (by simp(maxSteps:=9^7) (disch:=first|exact dI|fail) only[push_cast,seval])
 ·rw[if_neg hz]
  refine bM.intro iG (by simp[lL]) ?_
  simp(maxSteps:=9^7) (disch:=first|exact dI|fail) only[lL,hl0,hd8,push_cast,seval]
  refine ab.pure h143 rfl ?_
  simp(maxSteps:=9^7) (disch:=first|exact dI|fail) only[hz,push_cast,seval]
  exact aJ [] (by simp(maxSteps:=9^7) (disch:=first|exact dI|fail) only[push_cast,seval])
theorem AM:∀ n,KL n
 | 0=>fun _ _ _ h=>h.elim
 | n+1=>fun t d l ht hn hd hdn hl hl2=>by
   have ih:=AM n
   obtain⟨k,m,M,s,w,e,f⟩:=t
   by_cases hk:k=9
   ·subst hk;exact AL n ih m M s w e f d l ht hn hd hdn hl hl2
   ·exact AK n ih k m M s w e f d l ht hn hd hdn hl hl2 hk
end Go.Proofs.YtbaaokocnegdoaaGreatDoor
