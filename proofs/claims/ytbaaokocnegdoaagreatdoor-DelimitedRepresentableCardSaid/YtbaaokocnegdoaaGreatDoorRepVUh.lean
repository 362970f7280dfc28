/- A part of the proof for DelimitedRepresentableCardSaid. -/
import Derived.Test.YtbaaokocnegdoaaGreatDoorRepVUg
import Derived.Test.YtbaaokocnegdoaaGreatDoorRepVSi
import Derived.Test.YtbaaokocnegdoaaGreatDoorRepVU9
set_option maxRecDepth 100000
set_option linter.unusedVariables false
set_option linter.unusedSimpArgs false
-- many steps
namespace Go.Proofs.YtbaaokocnegdoaaGreatDoor
open Go Go.Ab
attribute [local irreducible] vc
theorem gm {k:Int}{b:List TFd}{n:Int}{nm:List UInt8}{nd:Int}{t:Typ}{d:List Val}(h:bw k b (.mk n nm nd t d)=0):eY k nd d=0:=by
 rw[mB] at h
 repeat' split at h
 all_goals first | exact absurd h (by decide) | exact h
theorem iq {k nd:Int}{d:List Val}(h:eY k nd d=0):(k=10→nd=1)∧((nd=3∧d.length=1)∨(¬ nd=3∧d.length=0)):=by
 unfold eY at h
 by_cases h1:inB nd 1 3=false
 ·rw[if_pos h1] at h;exact absurd h (by decide)
 rw[if_neg h1] at h
 by_cases h2:k=10∧¬ nd=1
 ·rw[if_pos h2] at h;exact absurd h (by decide)
 rw[if_neg h2] at h
 by_cases h3:nd=3∧d.length=0
 ·rw[if_pos h3] at h;exact absurd h (by decide)
 rw[if_neg h3] at h
 by_cases h4:1<d.length
 ·rw[if_pos h4] at h;exact absurd h (by decide)
 rw[if_neg h4] at h
 by_cases h5:¬ nd=3∧0<d.length
 ·rw[if_pos h5] at h;exact absurd h (by decide)
 refine⟨fun hk=>Decidable.byContradiction fun hh=>h2 ⟨hk,hh⟩,?_⟩
 by_cases hn:nd=3
 ·exact .inl ⟨hn,by have:¬ d.length=0:=fun hh=>h3 ⟨hn,hh⟩;omega⟩
 ·exact .inr ⟨hn,by have:¬ 0<d.length:=fun hh=>h5 ⟨hn,hh⟩;omega⟩
theorem jZ {n:Nat}{rec:Int→Typ→Int×Int}:∀ (f:List TFd) (l:Int),(∀ g∈f,mK n g=false)→dN rec l (f.map TFd.typ)=dz n rec l f
 | [],_,_=>rfl
 | x::r,l,h=>by
   rw[List.map_cons,dN,dz,h x (List.mem_cons_self ..),if_neg (show ¬ false=true by decide)]
   split
   ·exact jZ r _ fun g hg=>h g (List.mem_cons_of_mem _ hg)
   ·rfl
theorem x6 (rec:Int→Typ→Int×Int)(l:Int)(t:Typ):dN rec l [t]=rec l t:=by
 rw[dN]
 split
 ·rename_i h;rw[dN];exact Prod.ext h.symm rfl
 ·rfl
theorem zl {n:Nat}{k m M s:Int}{w:List (List UInt8)}{e:List Typ}{f:List TFd}(h:bA (.mk k m M s w e f)=0)(h8:¬ k=8)(l:Int):du (n+1) l (.mk k m M s w e f)=dz n (du n) (l - 1) f:=by
 rw[du,if_pos h]
 by_cases h9:k=9
 ·rw[if_pos h9]
 rw[if_neg h9]
 by_cases h10:k=10
 ·subst h10
  rw[show ba (.mk 10 m M s w e f)=f.map TFd.typ from rfl]
  refine jZ f _ fun g hg=>?_
  obtain⟨b,hb⟩:=bL f [] (bS h).2.2.2 g hg
  obtain⟨n',nm',nd',t',d'⟩:=g
  obtain rfl:=(iq (gm hb)).1 rfl
  rfl
 ·obtain rfl:=(fD h).2 (by omega)
  rw[show ba (.mk k m M s w e [])=[] by simp only[ba];rw[if_neg h8,if_neg (by omega)]]
  rfl
def In (n:Nat):Prop:=∀ (t:Typ) (d l:Int),bm n t→aN n t→0≤d→d+n≤9→hZ n≤l→l≤4096 →
 fi Tryz.prog aD 1 98 [.pv t.pv,.pv (.int .i64 d),.ptr 0 0] [.cells 3 true [.pv (.int .i64 l)]] (.pv (.int .i64 (du n l t).1)) [.cells 3 true [.pv (.int .i64 (du n l t).2)]]
theorem ll {n:Nat}{k m M s:Int}{w:List (List UInt8)}{e:List Typ}{f:List TFd}(h:bm (n+1) (.mk k m M s w e f)):ak Tryz.prog aD 148 [(Typ.mk k m M s w e f).pv] (.int .i64 (bA (.mk k m M s w e f))):=by
 simp only[bm] at h
 exact Kl m M s w e f k (fun x hx=>by have:=h.2.1 x hx;omega)
set_option maxHeartbeats 4000000 in
theorem uJ (n:Nat)(ih:In n)(m M s:Int)(w:List (List UInt8))(e:List Typ)(f:List TFd)(d l:Int)(ht:bm (n+1) (.mk 8 m M s w e f))(hn:aN (n+1) (.mk 8 m M s w e f))(hd:0≤d)(hdn:d+(n+1:Nat)≤9)(hl:hZ (n+1)≤l)(hl2:l≤4096) :
  fi Tryz.prog aD 1 98 [.pv (Typ.mk 8 m M s w e f).pv,.pv (.int .i64 d),.ptr 0 0] [.cells 3 true [.pv (.int .i64 l)]] (.pv (.int .i64 (du (n+1) l (.mk 8 m M s w e f)).1)) [.cells 3 true [.pv (.int .i64 (du (n+1) l (.mk 8 m M s w e f)).2)]]:=by
 have h148:=ll ht
 have hpt:=(kg ht).2.2
 have hc0:=eL n
 simp only[aN] at hn
 rw[hZ] at hl
 have hl0:¬ l=0:=by omega
 have hd8:¬ 8<d:=by omega
 by_cases hz:bA (.mk 8 m M s w e f)=0
 ·obtain⟨x,rfl⟩:=g6 hz
  have hxt:=hpt x (by rw[show ba (.mk 8 m M s w [x] f)=[x] from rfl];exact List.mem_cons_self ..)
  have hcall:=ih x (d+1) (l - 1) hxt (hn.2.2.1 x (List.mem_cons_self ..)) (by omega) (by omega) (by omega) (by omega)
  rw[du,if_pos hz,if_neg (by decide),show ba (.mk 8 m M s w [x] f)=[x] from rfl,x6]
  rw[hz] at h148
  obtain⟨⟨e1,e2⟩,he⟩:∃ q,q=du n (l - 1) x:=⟨_,rfl⟩
  rw[← he] at hcall ⊢
  clear he hz hxt hpt
  obtain⟨k',m',M',s',w',e',f'⟩:=x
  simp only[Typ.pv_mk,List.map_cons,List.map_nil] at h148 hcall
  simp only at hcall ⊢
  refine fi.intro qS (by simp[F98]) ?_
  simp(maxSteps:=9^7) (disch:=first|exact dI|fail) only[F98,Typ.pv_mk,hl0,hd8,push_cast,seval]
  refine ab.pure h148 rfl ?_
  simp(maxSteps:=9^7) (disch:=first|exact dI|fail) only[Typ.pv_mk,aO,ae,push_cast,seval]
  refine ab.lentK hcall [0] rfl (by simp(maxSteps:=9^7) (disch:=first|exact dI|fail) only[push_cast,seval]) (by simp(maxSteps:=9^7) (disch:=first|exact dI|fail) only[push_cast,seval]) ?_
  simp(maxSteps:=9^7) (disch:=first|exact dI|fail) only[push_cast,seval]
  exact bN [] (by simp(maxSteps:=9^7) (disch:=first|exact dI|fail) only[push_cast,seval])
 ·rw[du,if_neg hz]
  generalize bA (.mk 8 m M s w e f)=z at *
  simp only[Typ.pv_mk] at h148 ⊢
  refine fi.intro qS (by simp[F98]) ?_
  simp(maxSteps:=9^7) (disch:=first|exact dI|fail) only[F98,hl0,hd8,push_cast,seval]
  refine ab.pure h148 rfl ?_
  simp(maxSteps:=9^7) (disch:=first|exact dI|fail) only[hz,push_cast,seval]
  exact bN [] (by simp(maxSteps:=9^7) (disch:=first|exact dI|fail) only[push_cast,seval])
set_option maxHeartbeats 4000000 in
theorem uI (n:Nat)(ih:In n)(k m M s:Int)(w:List (List UInt8))(e:List Typ)(f:List TFd)(d l:Int)(ht:bm (n+1) (.mk k m M s w e f))(hn:aN (n+1) (.mk k m M s w e f))(hd:0≤d)(hdn:d+(n+1:Nat)≤9)(hl:hZ (n+1)≤l)(hl2:l≤4096)(hk:¬ k=8) :
  fi Tryz.prog aD 1 98 [.pv (Typ.mk k m M s w e f).pv,.pv (.int .i64 d),.ptr 0 0] [.cells 3 true [.pv (.int .i64 l)]] (.pv (.int .i64 (du (n+1) l (.mk k m M s w e f)).1)) [.cells 3 true [.pv (.int .i64 (du (n+1) l (.mk k m M s w e f)).2)]]:=by
 have h148:=ll ht
 have hc0:=eL n
 simp only[bm] at ht
 simp only[aN] at hn
 have hrem:=iF hc0 hn.2.1
 rw[hZ] at hl
 have hl0:¬ l=0:=by omega
 have hd8:¬ 8<d:=by omega
 by_cases hz:bA (.mk k m M s w e f)=0
 ·have hfl:=(bS hz).2.2.2
  rw[zl hz hk]
  rw[hz] at h148
  clear hz
  obtain⟨R,hR⟩:∃ R,R=dz n (du n) (l - 1) f:=⟨_,rfl⟩
  rw[← hR]
  simp only[Typ.pv_mk] at h148 ⊢
  refine fi.intro qS (by simp[F98]) ?_
  simp(maxSteps:=9^7) (disch:=first|exact dI|fail) only[F98,hl0,hd8,push_cast,seval]
  refine ab.pure h148 rfl ?_
  simp(maxSteps:=9^7) (disch:=first|exact dI|fail) only[hk,push_cast,seval]
  refine aB ([]) (fun x:Nat×Int=>[(8,.pv (.int .i64 (x.1:Int)))]) (fun x=>[(0,.cells 3 true [.pv (.int .i64 x.2)])]) (fun x=>x.1≤f.length∧R=dz n (du n) x.2 (f.drop x.1)∧jx (hZ n) (f.drop x.1)≤x.2∧x.2≤4096) (fun x=>f.length - x.1) ((0,l - 1)) ?_;intro e0 σ0 n0 h0;simp(maxSteps:=9^7) (disch:=first|exact dI|fail) only[push_cast,seval] at h0;obtain⟨rfl,rfl,rfl⟩:=h0;refine⟨?_,?_,?_⟩
  ·simp(maxSteps:=9^7) (disch:=first|exact dI|fail) only[push_cast,seval]
  ·exact⟨by simp,by simpa using hR,by simpa using (show jx (hZ n) f≤l - 1 by omega),by simp only;omega⟩
  rintro⟨i,L⟩ ⟨hi,hr,hL,hL2⟩
  simp only at hi hr hL hL2
  by_cases hlt:i<f.length
  ·have hltI:(i:Int)<(f.length:Int):=by omega
   obtain⟨g,hg⟩:∃ g,f[i]? = some g:=⟨_,List.getElem?_eq_getElem hlt⟩
   have hgm:=List.mem_of_getElem? hg
   obtain⟨hr1,hr2⟩:=iE hc0 hg
   have hgt:=(ht.2.2.2.2.2 g hgm).2.2
   have hgn:=hn.2.2.2 g hgm
   have hcall:=ih g.typ (d+1) L hgt hgn (by omega) (by omega) (by omega) hL2
   have hleft:=en n g.typ hgn L (by omega)
   have hty:=fe n L g.typ hgn
   obtain⟨bb,hfe⟩:=bL f [] hfl g hgm
   have hgd:=(ht.2.2.2.2.2 g hgm).2.1
   rw[jX hg] at hr
   obtain⟨⟨e1,e2⟩,he⟩:∃ q,q=du n L g.typ:=⟨_,rfl⟩
   rw[← he] at hcall hleft hr hty
   clear he
   obtain⟨n',nm',nd',t',d'⟩:=g
   simp only[TFd.typ,TFd.dflt] at hcall hleft hr hty hgt hgn hgd
   have hnd:=(iq (gm hfe)).2
   by_cases he0:e1=0
   ·subst he0
    rw[if_pos rfl] at hr
    rcases hnd with ⟨rfl,hd1⟩ | ⟨h3,hd0⟩
    ·obtain⟨x,r,rfl⟩:=eK hfe
     obtain⟨hx1,hx2,hx3⟩:=hgd x (List.mem_cons_self ..)
     have hd0I:(0:Int)<((x::r).length:Int):=by omega
     have hacc:=ub n t' x hx2 hx1.1 (fun hc=>i6 n 9 t' x (hty rfl) hgt (pB hx2 hc) hx1)
     simp only[mK,sZ,decide_true,Bool.true_and] at hr
     generalize accB n t' x=q at hacc hr
     obtain⟨k',m',M',s',w',e',f'⟩:=t'
     obtain⟨vk,vn,vs,vt,vl,vf⟩:=x
     simp only[Typ.pv_mk,Val.pv_mk] at hcall hacc
     simp(maxSteps:=9^7) (disch:=first|exact dI|fail) only[hg,Option.map_some,TFd.pv_mk,Typ.pv_mk,ae,push_cast,seval]
     refine ab.lentK hcall [0] rfl (by simp(maxSteps:=9^7) (disch:=first|exact dI|fail) only[push_cast,seval]) (by simp(maxSteps:=9^7) (disch:=first|exact dI|fail) only[push_cast,seval]) ?_
     simp(maxSteps:=9^7) (disch:=first|exact dI|fail) only[Val.pv_mk,ae,aO,hd0I,push_cast,seval]
     refine ab.pure hacc rfl ?_
     cases q with
     | true=>
       rw[if_neg (by decide)] at hr
       simp(maxSteps:=9^7) (disch:=first|exact dI|fail) only[push_cast,seval]
       exact⟨(i+1,e2),bg (by simp(maxSteps:=9^7) (disch:=first|exact dI|fail) only[push_cast,seval]),⟨by simp only;omega,hr,by simp only;omega,by simp only;omega⟩,by simp only;omega⟩
     | false=>
       rw[if_pos (by decide)] at hr
       subst hr
       simp(maxSteps:=9^7) (disch:=first|exact dI|fail) only[push_cast,seval]
       exact bN [] (by simp(maxSteps:=9^7) (disch:=first|exact dI|fail) only[push_cast,seval])
    ·rw[if_neg (by simp[mK,h3])] at hr
     obtain rfl:=List.length_eq_zero_iff.1 hd0
     obtain⟨k',m',M',s',w',e',f'⟩:=t'
     simp only[Typ.pv_mk] at hcall
     simp(maxSteps:=9^7) (disch:=first|exact dI|fail) only[hg,Option.map_some,TFd.pv_mk,Typ.pv_mk,ae,push_cast,seval]
     refine ab.lentK hcall [0] rfl (by simp(maxSteps:=9^7) (disch:=first|exact dI|fail) only[push_cast,seval]) (by simp(maxSteps:=9^7) (disch:=first|exact dI|fail) only[push_cast,seval]) ?_
     simp(maxSteps:=9^7) (disch:=first|exact dI|fail) only[push_cast,seval]
     exact⟨(i+1,e2),bg (by simp(maxSteps:=9^7) (disch:=first|exact dI|fail) only[push_cast,seval]),⟨by simp only;omega,hr,by simp only;omega,by simp only;omega⟩,by simp only;omega⟩
   ·rw[if_neg he0] at hr
    subst hr
    obtain⟨k',m',M',s',w',e',f'⟩:=t'
    simp only[Typ.pv_mk] at hcall
    simp(maxSteps:=9^7) (disch:=first|exact dI|fail) only[hg,Option.map_some,TFd.pv_mk,Typ.pv_mk,ae,push_cast,seval]
    refine ab.lentK hcall [0] rfl (by simp(maxSteps:=9^7) (disch:=first|exact dI|fail) only[push_cast,seval]) (by simp(maxSteps:=9^7) (disch:=first|exact dI|fail) only[push_cast,seval]) ?_
    simp(maxSteps:=9^7) (disch:=first|exact dI|fail) only[he0,push_cast,seval]
    exact bN [] (by simp(maxSteps:=9^7) (disch:=first|exact dI|fail) only[push_cast,seval])
  ·obtain rfl:i=f.length:=by omega
   rw[List.drop_length,dz] at hr
   subst hr
   simp(maxSteps:=9^7) (disch:=first|exact dI|fail) only[Int.lt_irrefl,push_cast,seval]
   exact bN [] (by simp(maxSteps:=9^7) (disch:=first|exact dI|fail) only[push_cast,seval])
 ·rw[du,if_neg hz]
  generalize bA (.mk k m M s w e f)=z at *
  simp only[Typ.pv_mk] at h148 ⊢
  refine fi.intro qS (by simp[F98]) ?_
  simp(maxSteps:=9^7) (disch:=first|exact dI|fail) only[F98,hl0,hd8,push_cast,seval]
  refine ab.pure h148 rfl ?_
  simp(maxSteps:=9^7) (disch:=first|exact dI|fail) only[hz,push_cast,seval]
  exact bN [] (by simp(maxSteps:=9^7) (disch:=first|exact dI|fail) only[push_cast,seval])
theorem uK:∀ n,In n
 | 0=>fun _ _ _ h=>h.elim
 | n+1=>fun t d l ht hn hd hdn hl hl2=>by
   have ih:=uK n
   obtain⟨k,m,M,s,w,e,f⟩:=t
   by_cases hk:k=8
   ·subst hk;exact uJ n ih m M s w e f d l ht hn hd hdn hl hl2
   ·exact uI n ih k m M s w e f d l ht hn hd hdn hl hl2 hk
end Go.Proofs.YtbaaokocnegdoaaGreatDoor
set_option maxRecDepth 100000
set_option linter.unusedVariables false
set_option linter.unusedSimpArgs false
-- many steps
namespace Go.Proofs.YtbaaokocnegdoaaGreatDoor
open Go Go.Ab
attribute [local irreducible] vc
def AH (a b:Int):Prop:=0≤a∧a≤b∧(a=b∨4097≤a)
theorem v8 {p q:TFd→Int}:∀ (f:List TFd),(∀ g∈f,AH (p g) (q g))→AH (f.map p).sum (f.map q).sum
 | [],_=>by simp[AH]
 | g::r,h=>by
   have h1:=h g (List.mem_cons_self ..)
   have h2:=v8 r fun x hx=>h x (List.mem_cons_of_mem _ hx)
   simp only[List.map_cons,List.sum_cons,AH] at *
   omega
theorem GJ {m a b:Int}(hm:0<m)(h:AH a b):AH (m*a) (m*b):=by
 obtain⟨h1,h2,h3⟩:=h
 refine⟨Int.mul_nonneg (by omega) h1,Int.mul_le_mul_of_nonneg_left h2 (by omega),?_⟩
 rcases h3 with rfl | h3
 ·exact .inl rfl
 ·have:1*a≤m*a:=Int.mul_le_mul_of_nonneg_right (by omega) h1
  exact .inr (by omega)
theorem g5 {a:Int}(h:0≤a):AH a a:=⟨h,by omega,.inl rfl⟩
theorem lG:∀ (n:Nat) (t:Typ),dc n t→AH (bO n t) (bP n t)∧bO n t=min (bP n t) 4097
 | 0,_,h=>h.elim
 | n+1,.mk k m M s w e f,h=>by
   have ih:=lG n
   simp only[dc] at h
   obtain⟨h8,h10,h9,hf⟩:=h
   have key:AH (bR (bO n) k m e f) (bR (bP n) k m e f):=by
    unfold bR
    by_cases e8:k=8
    ·rw[if_pos e8,if_pos e8]
     by_cases hm:0<m
     ·rw[if_pos hm,if_pos hm]
      obtain⟨_,x,r,rfl,hx⟩:=h8 e8 hm
      exact GJ hm (ih x hx).1
     ·rw[if_neg hm,if_neg hm];exact g5 (by omega)
    rw[if_neg e8,if_neg e8]
    by_cases e10:k=10
    ·rw[if_pos e10,if_pos e10]
     obtain⟨g,r,rfl,_,hx⟩:=h10 e10
     obtain⟨a,b,c,t,d⟩:=g
     exact (ih t hx).1
    rw[if_neg e10,if_neg e10]
    by_cases e9:k=9
    ·rw[if_pos e9,if_pos e9]
     refine v8 f fun g hg=>?_
     have hr:=(h9 e9).2 g hg
     obtain⟨a,b,nd,t,d⟩:=g
     simp only[fh,iG] at hr ⊢
     by_cases n1:nd=1
     ·rw[if_pos n1,if_pos n1];exact (ih t (hr.1 n1)).1
     ·rw[if_neg n1,if_neg n1]
      by_cases n3:nd=3
      ·obtain⟨x,r,rfl,hx⟩:=hr.2 n3
       rw[if_pos n3];simp only[Jn];exact g5 (by omega)
      ·rw[if_neg n3];exact g5 (by omega)
    ·rw[if_neg e9,if_neg e9];exact g5 (by omega)
   simp only[bO,bP,AH] at key ⊢
   omega
theorem em {α:Type}{p:α→Int}:∀ (l:List α) (a:Int),(4096<l.foldl (fun a x=>max a (p x)) a↔(4096<a∨∃ x∈l,4096<p x))
 | [],a=>by simp
 | x::r,a=>by
   rw[List.foldl_cons,em r,show (4096<max a (p x)↔(4096<a∨4096<p x)) by omega]
   simp[or_assoc]
theorem i7:∀ (n:Nat) (t:Typ),Ic n t→(4096<bY n t↔4096<cw n t)
 | 0,_,h=>h.elim
 | n+1,.mk k m M s w e f,h=>by
   simp only[Ic] at h
   obtain⟨hs,_,_,he,hf⟩:=h
   have h9:=(lG 9 _ hs).2
   simp only[bY,cw]
   rw[em (p:=fun g:TFd=>bY n g.typ) f,em (p:=fun g:TFd=>cw n g.typ) f,em e,em e,h9]
   exact or_congr (or_congr (by omega) (exists_congr fun x=>and_congr_right fun hx=>i7 n x (he x hx))) (exists_congr fun g=>and_congr_right fun hg=>i7 n g.typ (hf g hg))
theorem fl:∀ (n N:Nat) (t:Typ),n≤N→tyV n t→bm n t→dc N t
 | 0,_,_,_,h,_=>h.elim
 | _+1,0,_,h,_,_=>absurd h (by omega)
 | n+1,N+1,.mk k m M s w e f,hN,h,ht=>by
   obtain⟨ho,h8,h9⟩:=h
   simp only[bm] at ht
   obtain⟨t1,t2,t3,t4,t5,t6⟩:=ht
   refine⟨fun hk hm=>?_,fun hk=>?_,fun hk=>⟨E3 ho,fun g hg=>?_⟩,fun hk=>(fD ho).2 hk⟩
   ·subst hk
    obtain⟨x,rfl⟩:=g6 ho
    exact⟨w9 ho,x,[],rfl,fl n N x (by omega) (h8 rfl x (List.mem_cons_self ..)) (t5 x (List.mem_cons_self ..))⟩
   ·subst hk
    obtain⟨g,r,rfl⟩:=wZ ho
    obtain⟨b,hb⟩:=bL _ [] (bS ho).2.2.2 g (List.mem_cons_self ..)
    refine⟨g,r,rfl,?_,fl n N g.typ (by omega) (h9 (.inr rfl) g (List.mem_cons_self ..)) (t6 g (List.mem_cons_self ..)).2.2⟩
    obtain⟨n',nm',nd',t',d'⟩:=g
    exact (iq (gm hb)).1 rfl
   ·subst hk
    have hs:=fl n N g.typ (by omega) (h9 (.inl rfl) g hg) (t6 g hg).2.2
    obtain⟨b,hb⟩:=bL f [] (bS ho).2.2.2 g hg
    have hd:=(t6 g hg).2.1
    obtain⟨n',nm',nd',t',d'⟩:=g
    refine⟨fun _=>hs,fun h3=>?_⟩
    subst h3
    obtain⟨x,r,rfl⟩:=eK hb
    obtain⟨x1,x2,x3⟩:=hd x (List.mem_cons_self ..)
    exact⟨x,r,rfl,x2,x1.1,x3⟩
theorem pk:∀ (n:Nat) (t:Typ),n≤9→tyV n t→bm n t→Ic n t
 | 0,_,_,h,_=>h.elim
 | n+1,.mk k m M s w e f,hN,h,ht=>by
   have hs:=fl (n+1) 9 _ hN h ht
   obtain⟨ho,h8,h9⟩:=h
   obtain⟨he,hf⟩:=fD ho
   simp only[bm] at ht
   obtain⟨t1,t2,t3,t4,t5,t6⟩:=ht
   refine⟨hs,by omega,by omega,fun x hx=>?_,fun g hg=>?_⟩
   ·by_cases hk:k=8
    ·exact pk n x (by omega) (h8 hk x hx) (t5 x hx)
    ·rw[he hk] at hx;cases hx
   ·by_cases hk:k=9∨k=10
    ·exact pk n g.typ (by omega) (h9 hk g hg) (t6 g hg).2.2
    ·rw[hf hk] at hg;cases hg
theorem H1 (n:Nat)(t:Typ)(hn:n≤5)(ht:bm n t)(hw:aN n t):ak Tryz.prog aD 51 [t.pv] (.int .i64 (F9 n t)):=by
 have hcnt:hZ n≤4096:=by
  have hc:n=0∨n=1∨n=2∨n=3∨n=4∨n=5:=by omega
  rcases hc with rfl | rfl | rfl | rfl | rfl | rfl<;>decide
 have h94:=uK n t 1 4096 ht hw (by omega) (by omega) hcnt (by omega)
 have h95:(du n 4096 t).1=0→ak Tryz.prog aD 99 [t.pv] (.int .i64 (cw n t))∧(4096<bY n t↔4096<cw n t):=fun h=>by
  have ha:=pk n t (by omega) (fe n 4096 t hw h) ht
  exact⟨jU n t ha,i7 n t ha⟩
 simp only[F9]
 obtain⟨⟨z,L⟩,hq⟩:∃ q,q=du n 4096 t:=⟨_,rfl⟩
 rw[← hq] at h94 h95 ⊢
 simp only at h94 h95 ⊢
 clear hq
 generalize bY n t=G at h95 ⊢
 generalize cw n t=H at h95
 obtain⟨k,m,M,s,w,e,f⟩:=t
 simp only[Typ.pv_mk] at h94 h95
 refine ak.intro LO (by simp[F51]) ?_
 by_cases hz:z=0
 ·subst hz
  obtain⟨h95,hGH⟩:=h95 rfl
  rw[if_pos rfl]
  by_cases hg:4096<H
  ·rw[if_pos (hGH.2 hg)]
   simp(maxSteps:=9^7) (disch:=first|exact dI|fail) only[F51,Typ.pv_mk,push_cast,seval]
   refine ab.lentK h94 [1] rfl (by simp(maxSteps:=9^7) (disch:=first|exact dI|fail) only[push_cast,seval]) (by simp(maxSteps:=9^7) (disch:=first|exact dI|fail) only[push_cast,seval]) ?_
   simp(maxSteps:=9^7) (disch:=first|exact dI|fail) only[push_cast,seval]
   refine ab.pure h95 rfl ?_
   simp(maxSteps:=9^7) (disch:=first|exact dI|fail) only[hg,push_cast,seval]
  ·rw[if_neg (fun h=>hg (hGH.1 h))]
   simp(maxSteps:=9^7) (disch:=first|exact dI|fail) only[F51,Typ.pv_mk,push_cast,seval]
   refine ab.lentK h94 [1] rfl (by simp(maxSteps:=9^7) (disch:=first|exact dI|fail) only[push_cast,seval]) (by simp(maxSteps:=9^7) (disch:=first|exact dI|fail) only[push_cast,seval]) ?_
   simp(maxSteps:=9^7) (disch:=first|exact dI|fail) only[push_cast,seval]
   refine ab.pure h95 rfl ?_
   simp(maxSteps:=9^7) (disch:=first|exact dI|fail) only[hg,push_cast,seval]
 ·rw[if_neg hz]
  simp(maxSteps:=9^7) (disch:=first|exact dI|fail) only[F51,Typ.pv_mk,push_cast,seval]
  refine ab.lentK h94 [1] rfl (by simp(maxSteps:=9^7) (disch:=first|exact dI|fail) only[push_cast,seval]) (by simp(maxSteps:=9^7) (disch:=first|exact dI|fail) only[push_cast,seval]) ?_
  simp(maxSteps:=9^7) (disch:=first|exact dI|fail) only[hz,push_cast,seval]
end Go.Proofs.YtbaaokocnegdoaaGreatDoor
