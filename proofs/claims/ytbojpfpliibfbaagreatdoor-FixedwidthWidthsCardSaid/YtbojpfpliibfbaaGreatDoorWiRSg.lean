/- A part of the proof for FixedwidthWidthsCardSaid. -/
import Derived.Test.YtbojpfpliibfbaaGreatDoorWiRSe
import Derived.Test.YtbojpfpliibfbaaGreatDoorWiCore6
import Derived.Test.YtbojpfpliibfbaaGreatDoorWiF
import Derived.Test.YtbojpfpliibfbaaGreatDoorWiRD2
set_option maxRecDepth 100000
set_option linter.unusedVariables false
set_option linter.unusedSimpArgs false
-- many steps
namespace Go.Proofs.YtbojpfpliibfbaaGreatDoor
open Go Go.Ab
attribute [local irreducible] vc
def Hi (n:Nat):Prop:=∀ (t:Typ) (d l:Int),t.ok→d+n=9→0≤l→l≤4096 →
 dr Tryz.prog aD 1 123 [.pv t.pv,.pv (.int .i64 d),.ptr 0 0] [.cells 3 true [.pv (.int .i64 l)]] (.pv (.int .i64 (bM 0 n l t).1)) [.cells 3 true [.pv (.int .i64 (bM 0 n l t).2)]]
theorem dv {g:TFd}(h:g.ok):g.typ.ok∧∀ v∈g.dflt,v.ok:=by
 obtain⟨a1,a2,a3,a4,a5⟩:=g
 rw[TFd.ok_mk] at h
 exact⟨h.2.2.2.1,h.2.2.2.2.2⟩
theorem vh {k m M s:Int}{w:List (List UInt8)}{e:List Typ}{f:List TFd}(h:(Typ.mk k m M s w e f).ok):ae Tryz.prog aD 178 [(Typ.mk k m M s w e f).pv] (.int .i64 (bh (.mk k m M s w e f)))∧ae Tryz.prog aD 179 [(Typ.mk k m M s w e f).pv] (.list ((bA (.mk k m M s w e f)).map Typ.pv))∧(∀ x∈bA (.mk k m M s w e f),x.ok)∧(bA (.mk k m M s w e f)).length≤9000000000000:=by
 rw[Typ.ok_mk] at h
 obtain⟨_,_,_,_,h1,h2,h3,h4,h5,h6⟩:=h
 refine⟨Im m M s w e f k (fun x hx=>by have:=h2 x hx;omega) (by omega),Ah k m M s w e f (by omega),?_⟩
 by_cases h8:k=8
 ·rw[show bA (.mk k m M s w e f)=e from if_pos h8]
  exact⟨h4,by omega⟩
 ·by_cases h9:k=9∨k=10
  ·rw[show bA (.mk k m M s w e f)=f.map TFd.typ by simp only[bA];rw[if_neg h8,if_pos h9]]
   refine⟨fun x hx=>?_,by rw[List.length_map];omega⟩
   obtain⟨g,hg,rfl⟩:=List.mem_map.1 hx
   exact (dv (h6 g hg)).1
  ·rw[show bA (.mk k m M s w e f)=[] by simp only[bA];rw[if_neg h8,if_neg h9]]
   exact⟨fun x hx=>(by cases hx),by simp⟩
theorem wY (t:Typ)(d l:Int)(hd:d=9)(hl:0≤l):dr Tryz.prog aD 1 123 [.pv t.pv,.pv (.int .i64 d),.ptr 0 0] [.cells 3 true [.pv (.int .i64 l)]] (.pv (.int .i64 (bM 0 0 l t).1)) [.cells 3 true [.pv (.int .i64 (bM 0 0 l t).2)]]:=by
 subst hd
 rw[bM]
 obtain⟨k',m',M',s',w',e',f'⟩:=t
 simp only[Typ.pv_mk]
 by_cases h0:l=0
 ·subst h0
  rw[if_pos rfl]
  refine dr.intro e6 (by simp[ol]) ?_
  simp(maxSteps:=9^7) (disch:=try exact dI) only[ol,push_cast,seval]
  exact ba [] qsZ
 ·rw[if_neg h0]
  refine dr.intro e6 (by simp[ol]) ?_
  simp(maxSteps:=9^7) (disch:=try exact dI) only[ol,h0,Int.sub_zero,push_cast,seval]
  exact ba [] qsZ
theorem wV (n:Nat)(t:Typ)(d:Int):dr Tryz.prog aD 1 123 [.pv t.pv,.pv (.int .i64 d),.ptr 0 0] [.cells 3 true [.pv (.int .i64 0)]] (.pv (.int .i64 (bM 0 (n+1) 0 t).1)) [.cells 3 true [.pv (.int .i64 (bM 0 (n+1) 0 t).2)]]:=by
 obtain⟨k',m',M',s',w',e',f'⟩:=t
 rw[bM,if_pos rfl]
 simp only[Typ.pv_mk]
 refine dr.intro e6 (by simp[ol]) ?_
 simp(maxSteps:=9^7) (disch:=try exact dI) only[ol,push_cast,seval]
 exact ba [] qsZ
set_option maxHeartbeats 4000000 in
theorem wW (n:Nat)(ih:Hi n)(k m M s:Int)(w:List (List UInt8))(e:List Typ)(f:List TFd)(d l:Int)(ht:(Typ.mk k m M s w e f).ok)(hdn:d+(n+1:Nat)=9)(hd:1≤d)(hl:0≤l)(hl2:l≤4096)(hl0:¬ l=0)(hk:¬ k=9) :
  dr Tryz.prog aD 1 123 [.pv (Typ.mk k m M s w e f).pv,.pv (.int .i64 d),.ptr 0 0] [.cells 3 true [.pv (.int .i64 l)]] (.pv (.int .i64 (bM 0 (n+1) l (.mk k m M s w e f)).1)) [.cells 3 true [.pv (.int .i64 (bM 0 (n+1) l (.mk k m M s w e f)).2)]]:=by
 obtain⟨h143,h144,hpt,hpl⟩:=vh ht
 have hd8:¬ 8<d:=by omega
 rw[bM,if_neg hl0,if_neg hk]
 generalize bA (.mk k m M s w e f)=ps at *
 generalize bh (.mk k m M s w e f)=z at *
 simp only[Typ.pv_mk] at h143 h144 ⊢
 by_cases hz:z=0
 ·subst hz
  rw[if_pos rfl]
  obtain⟨R,hR⟩:∃ R,R=ci (bM 0 n) (l - 1) ps:=⟨_,rfl⟩
  rw[← hR]
  refine dr.intro e6 (by simp[ol]) ?_
  simp(maxSteps:=9^7) (disch:=try exact dI) only[ol,hl0,hd8,push_cast,seval]
  refine ab.pure h143 rfl ?_
  simp(maxSteps:=9^7) (disch:=try exact dI) only[push_cast,seval]
  refine ab.pure h144 rfl ?_
  simp(maxSteps:=9^7) (disch:=try exact dI) only[push_cast,seval]
  refine aA ([]) (fun x:Nat×Int=>[(32,.pv (.int .i64 (x.1:Int)))]) (fun x=>[(0,.cells 3 true [.pv (.int .i64 x.2)])]) (fun x=>x.1≤ps.length∧R=ci (bM 0 n) x.2 (ps.drop x.1)∧0≤x.2∧x.2≤4096) (fun x=>ps.length - x.1) ((0,l - 1)) ?_;intro e0 σ0 n0 h0;simp(maxSteps:=9^7) (disch:=try exact dI) only[push_cast,seval] at h0;obtain⟨rfl,rfl,rfl⟩:=h0;refine⟨?_,?_,?_⟩
  ·simp(maxSteps:=9^7) (disch:=try exact dI) only[push_cast,seval]
  ·exact⟨by simp,by simpa using hR,by simp only;omega,by simp only;omega⟩
  rintro⟨i,L⟩ ⟨hi,hr,hL,hL2⟩
  simp only at hi hr hL hL2
  by_cases hlt:i<ps.length
  ·have hltI:(i:Int)<(ps.length:Int):=by omega
   obtain⟨x,hx⟩:∃ x,ps[i]? = some x:=⟨_,List.getElem?_eq_getElem hlt⟩
   have hxm:=List.mem_of_getElem? hx
   have hcall:=ih x (d+1) L (hpt x hxm) (by omega) hL hL2
   have hleft:=er (δ:=0) (by decide) n x L hL hL2
   rw[rt hx] at hr
   obtain⟨⟨e1,e2⟩,he⟩:∃ q,q=bM 0 n L x:=⟨_,rfl⟩
   rw[← he] at hcall hleft hr
   simp only at hcall hleft hr
   obtain⟨k',m',M',s',w',e',f'⟩:=x
   simp only[Typ.pv_mk] at hcall
   simp(maxSteps:=9^7) (disch:=try exact dI) only[hx,Option.map_some,Typ.pv_mk,ag,push_cast,seval]
   refine ab.lentK hcall [0] rfl qsZ qsZ ?_
   by_cases he0:e1=0
   ·subst he0
    rw[if_pos rfl] at hr
    simp(maxSteps:=9^7) (disch:=try exact dI) only[hk,push_cast,seval]
    exact⟨(i+1,e2),aV qsZ,⟨by simp only;omega,hr,by simp only;omega,by simp only;omega⟩,by simp only;omega⟩
   ·rw[if_neg he0] at hr
    subst hr
    simp(maxSteps:=9^7) (disch:=try exact dI) only[he0,push_cast,seval]
    exact ba [] qsZ
  ·obtain rfl:i=ps.length:=by omega
   rw[List.drop_length,ci] at hr
   subst hr
   simp(maxSteps:=9^7) (disch:=try exact dI) only[Int.lt_irrefl,push_cast,seval]
   exact ba [] qsZ
 ·rw[if_neg hz]
  refine dr.intro e6 (by simp[ol]) ?_
  simp(maxSteps:=9^7) (disch:=try exact dI) only[ol,hl0,hd8,push_cast,seval]
  refine ab.pure h143 rfl ?_
  simp(maxSteps:=9^7) (disch:=try exact dI) only[hz,push_cast,seval]
  exact ba [] qsZ
end Go.Proofs.YtbojpfpliibfbaaGreatDoor
-- many steps
namespace Go.Proofs.YtbojpfpliibfbaaGreatDoor
open Go Go.Ab
attribute [local irreducible] vc
set_option maxHeartbeats 4000000 in
theorem wX (n:Nat)(ih:Hi n)(m M s:Int)(w:List (List UInt8))(e:List Typ)(f:List TFd)(d l:Int)(ht:(Typ.mk 9 m M s w e f).ok)(hdn:d+(n+1:Nat)=9)(hd:1≤d)(hl:0≤l)(hl2:l≤4096)(hl0:¬ l=0) :
  dr Tryz.prog aD 1 123 [.pv (Typ.mk 9 m M s w e f).pv,.pv (.int .i64 d),.ptr 0 0] [.cells 3 true [.pv (.int .i64 l)]] (.pv (.int .i64 (bM 0 (n+1) l (.mk 9 m M s w e f)).1)) [.cells 3 true [.pv (.int .i64 (bM 0 (n+1) l (.mk 9 m M s w e f)).2)]]:=by
 obtain⟨h143,h144,hpt,hpl⟩:=vh ht
 have hown:=bz (k:=9) (m:=m) (M:=M) (s:=s) (w:=w) (e:=e) (f:=f)
 rw[show bA (.mk 9 m M s w e f)=f.map TFd.typ from rfl] at h144 hpt
 rw[Typ.ok_mk] at ht
 have hd8:¬ 8<d:=by omega
 rw[bM,if_neg hl0,if_pos rfl]
 generalize bh (.mk 9 m M s w e f)=z at *
 simp only[Typ.pv_mk] at h143 h144 ⊢
 by_cases hz:z=0
 ·have hfl:=(hown hz).2.2.2
  clear hown
  subst hz
  rw[if_pos rfl]
  obtain⟨R,hR⟩:∃ R,R=bX n (bM 0 n) (l - 1) f:=⟨_,rfl⟩
  rw[← hR]
  refine dr.intro e6 (by simp[ol]) ?_
  simp(maxSteps:=9^7) (disch:=try exact dI) only[ol,hl0,hd8,push_cast,seval]
  refine ab.pure h143 rfl ?_
  simp(maxSteps:=9^7) (disch:=try exact dI) only[push_cast,seval]
  refine ab.pure h144 rfl ?_
  simp(maxSteps:=9^7) (disch:=try exact dI) only[push_cast,seval]
  refine aA ([]) (fun x:Nat×Int=>[(32,.pv (.int .i64 (x.1:Int)))]) (fun x=>[(0,.cells 3 true [.pv (.int .i64 x.2)])]) (fun x=>x.1≤f.length∧R=bX n (bM 0 n) x.2 (f.drop x.1)∧0≤x.2∧x.2≤4096) (fun x=>f.length - x.1) ((0,l - 1)) ?_;intro e0 σ0 n0 h0;simp(maxSteps:=9^7) (disch:=try exact dI) only[push_cast,seval] at h0;obtain⟨rfl,rfl,rfl⟩:=h0;refine⟨?_,?_,?_⟩
  ·simp(maxSteps:=9^7) (disch:=try exact dI) only[push_cast,seval]
  ·exact⟨by simp,by simpa using hR,by simp only;omega,by simp only;omega⟩
  rintro⟨i,L⟩ ⟨hi,hr,hL,hL2⟩
  simp only at hi hr hL hL2
  by_cases hlt:i<f.length
  ·have hltI:(i:Int)<(f.length:Int):=by omega
   obtain⟨g,hg⟩:∃ g,f[i]? = some g:=⟨_,List.getElem?_eq_getElem hlt⟩
   have hgm:=List.mem_of_getElem? hg
   have hgt:=hpt g.typ (List.mem_map_of_mem hgm)
   have hcall:=ih g.typ (d+1) L hgt (by omega) hL hL2
   have hleft:=er (δ:=0) (by decide) n g.typ L hL hL2
   have hty:=eq (δ:=0) n L g.typ
   have hfe:=bL f [] hfl g hgm
   have hgd:=(dv (ht.2.2.2.2.2.2.2.2.2 g hgm)).2
   rw[jQ hg] at hr
   obtain⟨⟨e1,e2⟩,he⟩:∃ q,q=bM 0 n L g.typ:=⟨_,rfl⟩
   rw[← he] at hcall hleft hr hty
   clear he
   obtain⟨n',nm',nd',t',d'⟩:=g
   simp only[TFd.typ,TFd.dflt] at hcall hleft hr hty hgt hgd
   by_cases he0:e1=0
   ·subst he0
    rw[if_pos rfl] at hr
    by_cases h3:nd'=3
    ·subst h3
     obtain⟨b,hb⟩:=hfe
     obtain⟨x,r,rfl⟩:=eH hb
     have hx1:=hgd x (List.mem_cons_self ..)
     have hacc:=sl n t' x hx1 (fun hc=>iL n (lvl x) t' x (hty rfl) hgt (ov (eC x) hc) hx1)
     simp only[fC,nQ,decide_true,Bool.true_and] at hr
     generalize accB n t' x=q at hacc hr
     obtain⟨k',m',M',s',w',e',f'⟩:=t'
     obtain⟨vk,vn,vs,vt,vl,vf⟩:=x
     simp only[Typ.pv_mk,Val.pv_mk] at hcall hacc
     simp(maxSteps:=9^7) (disch:=try exact dI) only[hg,Option.map_some,TFd.typ,Typ.pv_mk,ag,push_cast,seval]
     refine ab.lentK hcall [0] rfl qsZ qsZ ?_
     simp(maxSteps:=9^7) (disch:=try exact dI) only[hg,Option.map_some,TFd.pv_mk,Typ.pv_mk,Val.pv_mk,ag,aJ,push_cast,seval]
     refine ab.pure hacc rfl ?_
     cases q with
     | true=>
       rw[if_neg (by decide)] at hr
       simp(maxSteps:=9^7) (disch:=try exact dI) only[push_cast,seval]
       exact⟨(i+1,e2),aV qsZ,⟨by simp only;omega,hr,by simp only;omega,by simp only;omega⟩,by simp only;omega⟩
     | false=>
       rw[if_pos (by decide)] at hr
       subst hr
       simp(maxSteps:=9^7) (disch:=try exact dI) only[push_cast,seval]
       exact ba [] qsZ
    ·rw[if_neg (by simp[fC,h3])] at hr
     obtain⟨k',m',M',s',w',e',f'⟩:=t'
     simp only[Typ.pv_mk] at hcall
     simp(maxSteps:=9^7) (disch:=try exact dI) only[hg,Option.map_some,TFd.typ,Typ.pv_mk,ag,push_cast,seval]
     refine ab.lentK hcall [0] rfl qsZ qsZ ?_
     simp(maxSteps:=9^7) (disch:=try exact dI) only[hg,Option.map_some,TFd.pv_mk,Typ.pv_mk,ag,h3,push_cast,seval]
     exact⟨(i+1,e2),aV qsZ,⟨by simp only;omega,hr,by simp only;omega,by simp only;omega⟩,by simp only;omega⟩
   ·rw[if_neg he0] at hr
    subst hr
    obtain⟨k',m',M',s',w',e',f'⟩:=t'
    simp only[Typ.pv_mk] at hcall
    simp(maxSteps:=9^7) (disch:=try exact dI) only[hg,Option.map_some,TFd.typ,Typ.pv_mk,ag,push_cast,seval]
    refine ab.lentK hcall [0] rfl qsZ qsZ ?_
    simp(maxSteps:=9^7) (disch:=try exact dI) only[he0,push_cast,seval]
    exact ba [] qsZ
  ·obtain rfl:i=f.length:=by omega
   rw[List.drop_length,bX] at hr
   subst hr
   simp(maxSteps:=9^7) (disch:=try exact dI) only[Int.lt_irrefl,push_cast,seval]
   exact ba [] qsZ
 ·rw[if_neg hz]
  refine dr.intro e6 (by simp[ol]) ?_
  simp(maxSteps:=9^7) (disch:=try exact dI) only[ol,hl0,hd8,push_cast,seval]
  refine ab.pure h143 rfl ?_
  simp(maxSteps:=9^7) (disch:=try exact dI) only[hz,push_cast,seval]
  exact ba [] qsZ
theorem wZ:∀ n,n≤8→Hi n
 | 0,_=>fun t d l ht hd hl hl2=>wY t d l (by omega) hl
 | n+1,hn=>fun t d l ht hd hl hl2=>by
   by_cases hl0:l=0
   ·subst hl0;exact wV n t d
   have ih:=wZ n (by omega)
   obtain⟨k,m,M,s,w,e,f⟩:=t
   by_cases hk:k=9
   ·subst hk;exact wX n ih m M s w e f d l ht hd (by omega) hl hl2 hl0
   ·exact wW n ih k m M s w e f d l ht hd (by omega) hl hl2 hl0 hk
end Go.Proofs.YtbojpfpliibfbaaGreatDoor
-- many steps
namespace Go.Proofs.YtbojpfpliibfbaaGreatDoor
open Go Go.Ab
attribute [local irreducible] vc
theorem fo {k m M s:Int}{w:List (List UInt8)}{e:List Typ}{f:List TFd}(h:bh (.mk k m M s w e f)=0):(¬ k=8→e=[])∧(¬ (k=9∨k=10)→f=[]):=by
 rw[bh] at h
 by_cases a:inB k 1 10=false
 ·rw[if_pos a] at h;exact absurd h (by decide)
 rw[if_neg a] at h
 have hr:1≤k∧k≤10:=by simpa[inB] using a
 by_cases b:aQ k (.mk k m M s w e f)=true
 ·rw[if_pos b] at h;exact absurd h (by decide)
 have b':aQ k (.mk k m M s w e f)=false:=by simpa using b
 simp only[aQ,aq,Bool.or_eq_false_iff] at b'
 obtain⟨_,_,_,b4,b5⟩:=b'
 refine⟨fun h8=>?_,fun h9=>?_⟩
 ·rw[decide_eq_false h8] at b4
  exact List.length_eq_zero_iff.1 (by simpa using b4)
 ·have h9':¬ 9≤k:=by omega
  rw[decide_eq_false h9'] at b5
  exact List.length_eq_zero_iff.1 (by simpa using b5)
theorem uM {m M s:Int}{w:List (List UInt8)}{e:List Typ}{f:List TFd}(h:bh (.mk 8 m M s w e f)=0):m≤256:=by
 have hb:=(bz h).2.1
 unfold az at hb
 rw[if_neg (fun hh=>absurd hh.1 (by decide))] at hb
 by_cases hc:(2≤(8:Int)∧(8:Int)≤8)∧(M<m∨m<loK 8∨hiK 8<M)
 ·rw[if_pos hc] at hb;exact absurd hb (by decide)
 ·have h2:¬ (M<m∨m<loK 8∨hiK 8<M):=fun hh=>hc ⟨by decide,hh⟩
  rw[show hiK 8=256 from rfl] at h2
  omega
theorem uI {m M s:Int}{w:List (List UInt8)}{e:List Typ}{f:List TFd}(h:bh (.mk 10 m M s w e f)=0):∃ g r,f=g::r:=by
 have h1:=(bz h).2.2.1
 cases f with
 | cons g r=>exact⟨g,r,rfl⟩
 | nil=>simp[aE] at h1
theorem CN {k m M s:Int}{w:List (List UInt8)}{e:List Typ}{f:List TFd}(h:bh (.mk k m M s w e f)=0):f.length≤64:=by
 have h1:=(bz h).2.2.1
 by_cases hc:64<f.length
 ·exfalso
  unfold aE at h1
  repeat' split at h1
  all_goals first | exact absurd h1 (by decide) | omega
 ·omega
theorem pp {n:Nat}{a:Int}{nm:List UInt8}{t:Typ}{x:Val}{r:List Val}(h:fC n (.mk a nm 3 t (x::r))=false)(hx:x.ok):HL x:=by
 have h1:accB n t x=true:=by simpa[fC,nQ] using h
 have h2:C6 x=0:=by simp only[accB,Bool.and_eq_true,decide_eq_true_eq] at h1;exact h1.1
 have:=pA (ct (lvl x) 1 x) 0 (by omega) h2
 exact⟨hx,by omega⟩
theorem gJ:∀ (n N:Nat) (t:Typ),n≤N→tyV n t→t.ok→dR N t
 | 0,_,_,_,h,_=>h.elim
 | _+1,0,_,h,_,_=>absurd h (by omega)
 | n+1,N+1,.mk k m M s w e f,hN,h,ht=>by
   obtain⟨ho,h8,h9⟩:=h
   rw[Typ.ok_mk] at ht
   obtain⟨_,_,_,_,_,_,t3,t5,t4,t6⟩:=ht
   refine⟨fun hk hm=>?_,fun hk=>?_,fun hk=>⟨CN ho,fun g hg=>?_⟩⟩
   ·subst hk
    obtain⟨x,rfl⟩:=gQ ho
    exact⟨uM ho,x,[],rfl,gJ n N x (by omega) (h8 rfl x (List.mem_cons_self ..)) (t5 x (List.mem_cons_self ..))⟩
   ·subst hk
    obtain⟨g,r,rfl⟩:=uI ho
    exact⟨g,r,rfl,gJ n N g.typ (by omega) (h9 (.inr rfl) g (List.mem_cons_self ..)).1 (dv (t6 g (List.mem_cons_self ..))).1⟩
   ·subst hk
    have hs:=gJ n N g.typ (by omega) (h9 (.inl rfl) g hg).1 (dv (t6 g hg)).1
    obtain⟨b,hb⟩:=bL f [] (bz ho).2.2.2 g hg
    have hd:=(dv (t6 g hg)).2
    have hdf:=(h9 (.inl rfl) g hg).2 rfl
    obtain⟨n',nm',nd',t',d'⟩:=g
    refine⟨fun _=>hs,fun h3=>?_⟩
    subst h3
    obtain⟨x,r,rfl⟩:=eH hb
    exact⟨x,r,rfl,pp hdf (hd x (List.mem_cons_self ..))⟩
theorem xG:∀ (n:Nat) (t:Typ),n≤9→tyV n t→t.ok→JC n t
 | 0,_,_,h,_=>h.elim
 | n+1,.mk k m M s w e f,hN,h,ht=>by
   have hs:=gJ (n+1) 9 _ hN h ht
   obtain⟨ho,h8,h9⟩:=h
   obtain⟨he,hf⟩:=fo ho
   rw[Typ.ok_mk] at ht
   obtain⟨_,_,_,_,_,_,t3,t5,t4,t6⟩:=ht
   refine⟨hs,by omega,by omega,fun x hx=>?_,fun g hg=>?_⟩
   ·by_cases hk:k=8
    ·exact xG n x (by omega) (h8 hk x hx) (t5 x hx)
    ·rw[he hk] at hx;cases hx
   ·by_cases hk:k=9∨k=10
    ·exact xG n g.typ (by omega) (h9 hk g hg).1 (dv (t6 g hg)).1
    ·rw[hf hk] at hg;cases hg
noncomputable def gK (t:Typ):Int:=if (bM 0 8 4096 t).1=0 then (if 4096<bZ 8 t then 9 else 0) else (bM 0 8 4096 t).1
theorem w7 (t:Typ)(ht:t.ok):ae Tryz.prog aD 69 [t.pv] (.int .i64 (gK t)):=by
 have h94:=wZ 8 (by omega) t 1 4096 ht (by omega) (by omega) (by omega)
 have h95:(bM 0 8 4096 t).1=0→ae Tryz.prog aD 124 [t.pv] (.int .i64 (bZ 8 t)):=fun h=>eO 8 t (xG 8 t (by omega) (eq 8 4096 t h) ht)
 simp only[gK]
 obtain⟨⟨z,L⟩,hq⟩:∃ q,q=bM 0 8 4096 t:=⟨_,rfl⟩
 rw[← hq] at h94 h95 ⊢
 simp only at h94 h95 ⊢
 clear hq
 generalize bZ 8 t=G at h95 ⊢
 obtain⟨k,m,M,s,w,e,f⟩:=t
 simp only[Typ.pv_mk] at h94 h95
 refine ae.intro JY (by simp[F69]) ?_
 by_cases hz:z=0
 ·subst hz
  have h95:=h95 rfl
  rw[if_pos rfl]
  by_cases hg:4096<G
  ·rw[if_pos hg]
   simp(maxSteps:=9^7) (disch:=try exact dI) only[F69,Typ.pv_mk,push_cast,seval]
   refine ab.lentK h94 [1] rfl qsZ qsZ ?_
   simp(maxSteps:=9^7) (disch:=try exact dI) only[push_cast,seval]
   refine ab.pure h95 rfl ?_
   simp(maxSteps:=9^7) (disch:=try exact dI) only[hg,push_cast,seval]
  ·rw[if_neg hg]
   simp(maxSteps:=9^7) (disch:=try exact dI) only[F69,Typ.pv_mk,push_cast,seval]
   refine ab.lentK h94 [1] rfl qsZ qsZ ?_
   simp(maxSteps:=9^7) (disch:=try exact dI) only[push_cast,seval]
   refine ab.pure h95 rfl ?_
   simp(maxSteps:=9^7) (disch:=try exact dI) only[hg,push_cast,seval]
 ·rw[if_neg hz]
  simp(maxSteps:=9^7) (disch:=try exact dI) only[F69,Typ.pv_mk,push_cast,seval]
  refine ab.lentK h94 [1] rfl qsZ qsZ ?_
  simp(maxSteps:=9^7) (disch:=try exact dI) only[hz,push_cast,seval]
end Go.Proofs.YtbojpfpliibfbaaGreatDoor
namespace Go.Ab
open Go
def LF (y:Int):Bool:=decide (y % 4=0)&&(!decide (y % 100=0)||decide (y % 400=0))
def mdI (y m:Int):Int:=if m=2 then (if LF y=true then 29 else 28) else if m=4∨m=6∨m=9∨m=11 then 30 else 31
structure DateOk (y:Int)(m:Nat)(d:Int):Prop where
 y1:1≤y
 y2:y≤9999
 m1:1≤m
 m2:m≤12
 d1:1≤d
 d2:d≤mdI y m
end Go.Ab
-- many steps
namespace Go.Proofs.YtbojpfpliibfbaaGreatDoor
open Go Go.Ab
attribute [local irreducible] vc
end Go.Proofs.YtbojpfpliibfbaaGreatDoor
-- many steps
namespace Go.Proofs.YtbojpfpliibfbaaGreatDoor
open Go Go.Ab
open Nat renaming reduceEqDiff→qa,reduceAdd→qb,reduceMul→qc,reduceLeDiff→qd,reduceLT→qe,reduceBEq→qf,reduceSub→qg
open Int renaming reduceToNat→qh,reduceNeg→qi
attribute [local irreducible] vc
end Go.Proofs.YtbojpfpliibfbaaGreatDoor
-- many steps
namespace Go.Proofs.YtbojpfpliibfbaaGreatDoor
open Go Go.Ab
attribute [local irreducible] vc
end Go.Proofs.YtbojpfpliibfbaaGreatDoor
-- many steps
namespace Go.Proofs.YtbojpfpliibfbaaGreatDoor
open Go Go.Ab
attribute [local irreducible] vc
end Go.Proofs.YtbojpfpliibfbaaGreatDoor
