/- A part of the proof for CodecUsualCardSaid. -/
import Derived.Test.YtfepkhlgopjaoaaGreatDoorUsKM1
import Derived.Test.YtfepkhlgopjaoaaGreatDoorUsCore6
import Derived.Test.YtfepkhlgopjaoaaGreatDoorUsKW9
set_option linter.unusedVariables false
set_option linter.unusedSimpArgs false
set_option maxRecDepth 100000
-- many steps
namespace Go.Proofs.YtfepkhlgopjaoaaGreatDoor
open Go Go.Ab
attribute [local irreducible] vc
def K0 (n:Nat):Prop:=∀ (t:Typ) (l:Int),t.ok→0≤l→l≤300 →
 cq Tryz.prog az 1 56 [.pv t.pv,.pv (.int .i64 (n:Int)),.ptr 0 0] [.cells 3 true [.pv (.int .i64 l)]] (.pv (.bool (cG n l t).1)) [.cells 3 true [.pv (.int .i64 (cG n l t).2)]]
def wD (w:List UInt8):Bool:=decide (2000<w.length)
theorem ki (n:Nat)(l k m M s:Int)(w:List (List UInt8))(e:List Typ)(f:List TFd):cG (n+1) l (.mk k m M s w e f)=if l - 1<0∨70<w.length∨w.any wD=true then (false,l - 1) else if (kj (cG n) (l - 1) e).1=true then qp (cG n) (kj (cG n) (l - 1) e).2 f else (false,(kj (cG n) (l - 1) e).2):=by
 rw[cG];rfl
theorem mC (n:Nat)(hn:n≤12)(k m M s:Int)(w:List (List UInt8))(e:List Typ)(f:List TFd)(l:Int)(h0:0≤l)(h1:l≤300)(h:l - 1<0∨n=0∨70<w.length) :
  cq Tryz.prog az 1 56 [.pv (Typ.mk k m M s w e f).pv,.pv (.int .i64 (n:Int)),.ptr 0 0] [.cells 3 true [.pv (.int .i64 l)]] (.pv (.bool (cG n l (.mk k m M s w e f)).1)) [.cells 3 true [.pv (.int .i64 (cG n l (.mk k m M s w e f)).2)]]:=by
 have ee:cG n l (.mk k m M s w e f)=(false,l - 1):=by
  cases n with
  | zero=>rfl
  | succ n=>
    rw[ki,if_pos]
    rcases h with h | h | h
    ·exact .inl h
    ·cases h
    ·exact .inr (.inl h)
 rw[ee]
 simp only[Typ.pv_mk]
 by_cases hA:l - 1<0
 ·refine cq.intro pE (by simp[F56]) ?_
  simp(maxSteps:=9^7) (disch:=try exact dI) only[F56,hA,push_cast,seval]
  exact aL [] qsZ
 by_cases hB:n=0
 ·subst hB
  refine cq.intro pE (by simp[F56]) ?_
  simp(maxSteps:=9^7) (disch:=try exact dI) only[F56,hA,push_cast,seval]
  exact aL [] qsZ
 ·have hC:(70:Int)<(w.length:Int):=by omega
  have hBI:¬ (n:Int)=0:=by omega
  refine cq.intro pE (by simp[F56]) ?_
  simp(maxSteps:=9^7) (disch:=try exact dI) only[F56,hA,hBI,hC,push_cast,seval]
  exact aL [] qsZ
set_option maxHeartbeats 16000000 in
theorem E6 (n:Nat)(hn:n+1≤12)(ih:K0 n)(k m M s:Int)(w:List (List UInt8))(e:List Typ)(f:List TFd)(ht:(Typ.mk k m M s w e f).ok)(l:Int)(h0:0≤l)(h1:l≤300)(hA:¬ l - 1<0)(hC:¬ 70<w.length) :
  cq Tryz.prog az 1 56 [.pv (Typ.mk k m M s w e f).pv,.pv (.int .i64 ((n+1:Nat):Int)),.ptr 0 0] [.cells 3 true [.pv (.int .i64 l)]] (.pv (.bool (cG (n+1) l (.mk k m M s w e f)).1)) [.cells 3 true [.pv (.int .i64 (cG (n+1) l (.mk k m M s w e f)).2)]]:=by
 have hCI:¬ (70:Int)<(w.length:Int):=by omega
 have hB:¬ ((n+1:Nat):Int)=0:=by omega
 rw[Typ.ok_mk] at ht
 obtain⟨_,_,_,_,_,_,hel,heo,hfl,hfo⟩:=ht
 obtain⟨W,hW⟩:∃ W,W=w.any wD:=⟨_,rfl⟩
 obtain⟨E,hE⟩:∃ E,E=kj (cG n) (l - 1) e:=⟨_,rfl⟩
 obtain⟨Q,hQ⟩:∃ Q,Q=(if E.1=true then qp (cG n) E.2 f else (false,E.2)):=⟨_,rfl⟩
 obtain⟨Z,hZ⟩:∃ Z,Z=(if W=true then (false,l - 1) else Q):=⟨_,rfl⟩
 have hRQ:cG (n+1) l (.mk k m M s w e f)=Z:=by
  rw[hZ,hQ,hE,hW,ki]
  by_cases hw:w.any wD=true
  ·rw[if_pos hw,if_pos (Or.inr (Or.inr hw))]
  ·rw[if_neg hw,if_neg (fun q=>q.elim hA fun q=>q.elim hC hw)]
 rw[hRQ]
 clear hRQ
 obtain⟨nn,hnn⟩:∃ nn:Int,nn=((n+1:Nat):Int):=⟨_,rfl⟩
 have hn1:nn - 1=(n:Int):=by omega
 have hn0:1≤nn∧nn≤12:=by omega
 rw[← hnn] at hB ⊢
 clear hnn
 simp only[Typ.pv_mk]
 refine cq.intro pE (by simp[F56]) ?_
 simp(maxSteps:=9^7) (disch:=try exact dI) only[F56,hA,hB,hCI,push_cast,seval]
 refine aB ([]) (fun i:Nat=>[(7,.pv (.int .i64 (i:Int)))]) (fun _=>[]) (fun i=>i≤w.length∧W=(w.drop i).any wD) (fun i=>w.length - i) (0) ?_;intro e0 σ0 n0 h0;simp(maxSteps:=9^7) (disch:=try exact dI) only[push_cast,seval] at h0;obtain⟨rfl,rfl,rfl⟩:=h0;refine⟨?_,?_,?_⟩
 ·simp(maxSteps:=9^7) (disch:=try exact dI) only[push_cast,seval]
 ·exact⟨by simp,by simpa using hW⟩
 rintro i ⟨hi,hr⟩
 by_cases hlt:i<w.length
 ·have hltI:(i:Int)<(w.length:Int):=by omega
  obtain⟨x,hx⟩:∃ x,w[i]? = some x:=⟨_,List.getElem?_eq_getElem hlt⟩
  rw[ii hx,wD] at hr
  by_cases hx2:2000<x.length
  ·have hxI:(2000:Int)<(x.length:Int):=by omega
   rw[decide_eq_true hx2,Bool.true_or] at hr
   rw[hr,if_pos rfl] at hZ
   subst hZ
   simp(maxSteps:=9^7) (disch:=try exact dI) only[hx,Option.map_some,hxI,push_cast,seval]
   exact aL [] qsZ
  ·have hxI:¬ (2000:Int)<(x.length:Int):=by omega
   rw[decide_eq_false hx2,Bool.false_or] at hr
   simp(maxSteps:=9^7) (disch:=try exact dI) only[hx,Option.map_some,hxI,push_cast,seval]
   exact⟨i+1,bH qsZ,⟨by omega,hr⟩,by omega⟩
 obtain rfl:i=w.length:=by omega
 rw[List.drop_length,List.any_nil] at hr
 rw[hr,if_neg (by decide)] at hZ
 rw[hZ]
 clear hZ
 clear hW hr hi hlt
 simp(maxSteps:=9^7) (disch:=try exact dI) only[Int.lt_irrefl,push_cast,seval]
 refine aB ([]) (fun x:Nat×Int=>[(8,.pv (.int .i64 (x.1:Int)))]) (fun x=>[(0,.cells 3 true [.pv (.int .i64 x.2)])]) (fun x=>x.1≤e.length∧E=kj (cG n) x.2 (e.drop x.1)∧0≤x.2∧x.2≤300) (fun x=>e.length - x.1) ((0,l - 1)) ?_;intro e0 σ0 n0 h0;simp(maxSteps:=9^7) (disch:=try exact dI) only[push_cast,seval] at h0;obtain⟨rfl,rfl,rfl⟩:=h0;refine⟨?_,?_,?_⟩
 ·simp(maxSteps:=9^7) (disch:=try exact dI) only[push_cast,seval]
 ·exact⟨by simp,by simpa using hE,by simp only;omega,by simp only;omega⟩
 rintro⟨i,L⟩ ⟨hi,hr,hL,hL2⟩
 simp only at hi hr hL hL2
 by_cases hlt:i<e.length
 ·have hltI:(i:Int)<(e.length:Int):=by omega
  obtain⟨x,hx⟩:∃ x,e[i]? = some x:=⟨_,List.getElem?_eq_getElem hlt⟩
  have hcall:=ih x L (heo x (List.mem_of_getElem? hx)) hL hL2
  have hb:=f6 n L x hL hL2
  rw[uj hx] at hr
  obtain⟨⟨e1,e2⟩,he⟩:∃ q,q=cG n L x:=⟨_,rfl⟩
  rw[← he] at hcall hb hr
  simp only at hcall hb hr
  obtain⟨k',m',M',s',w',e',f'⟩:=x
  simp only[Typ.pv_mk] at hcall
  simp(maxSteps:=9^7) (disch:=try exact dI) only[hx,Option.map_some,Typ.pv_mk,ag,hn1,push_cast,seval]
  refine ae.lentK hcall [0] rfl qsZ qsZ ?_
  cases e1 with
  | true=>
    rw[if_pos rfl] at hr
    have hb0:=hb.2.2 rfl
    simp(maxSteps:=9^7) (disch:=try exact dI) only[push_cast,seval]
    exact⟨(i+1,e2),bH qsZ,⟨by simp only;omega,hr,by simp only;omega,by simp only;omega⟩,by simp only;omega⟩
  | false=>
    rw[if_neg (by decide)] at hr
    subst hr
    rw[if_neg (by simp)] at hQ
    subst hQ
    simp(maxSteps:=9^7) (disch:=try exact dI) only[push_cast,seval]
    exact aL [] qsZ
 obtain rfl:i=e.length:=by omega
 rw[List.drop_length,kj] at hr
 subst hr
 rw[if_pos rfl] at hQ
 simp only at hQ
 simp(maxSteps:=9^7) (disch:=try exact dI) only[Int.lt_irrefl,push_cast,seval]
 refine aB ([]) (fun x:Nat×Int=>[(9,.pv (.int .i64 (x.1:Int)))]) (fun x=>[(0,.cells 3 true [.pv (.int .i64 x.2)])]) (fun x=>x.1≤f.length∧Q=qp (cG n) x.2 (f.drop x.1)∧0≤x.2∧x.2≤300) (fun x=>f.length - x.1) ((0,L)) ?_;intro e0 σ0 n0 h0;simp(maxSteps:=9^7) (disch:=try exact dI) only[push_cast,seval] at h0;obtain⟨rfl,rfl,rfl⟩:=h0;refine⟨?_,?_,?_⟩
 ·simp(maxSteps:=9^7) (disch:=try exact dI) only[push_cast,seval]
 ·exact⟨by simp,by simpa using hQ,hL,hL2⟩
 clear hQ hi hE
 rintro⟨i,L⟩ ⟨hi,hr,hL,hL2⟩
 simp only at hi hr hL hL2
 by_cases hlt:i<f.length
 ·have hltI:(i:Int)<(f.length:Int):=by omega
  obtain⟨x,hx⟩:∃ x,f[i]? = some x:=⟨_,List.getElem?_eq_getElem hlt⟩
  have hxo:=hfo x (List.mem_of_getElem? hx)
  rw[ul hx] at hr
  obtain⟨nu,nm,nd,x,d⟩:=x
  rw[TFd.ok_mk] at hxo
  obtain⟨_,hnl,_,hxo,hdl,hdo⟩:=hxo
  replace hr:Q=(if (cG n L x).1=true then (if 3<d.length∨100<nm.length∨d.any (fun v=>!(dd 12 300 v).1)=true then (false,(cG n L x).2) else qp (cG n) (cG n L x).2 (f.drop (i+1))) else (false,(cG n L x).2)):=hr
  have hcall:=ih x L hxo hL hL2
  have hb:=f6 n L x hL hL2
  obtain⟨⟨e1,e2⟩,he⟩:∃ q,q=cG n L x:=⟨_,rfl⟩
  rw[← he] at hcall hb hr
  simp only at hcall hb hr
  obtain⟨k',m',M',s',w',e',f'⟩:=x
  simp only[Typ.pv_mk] at hcall
  simp(maxSteps:=9^7) (disch:=try exact dI) only[hx,Option.map_some,TFd.pv_mk,Typ.pv_mk,ag,hn1,push_cast,seval]
  refine ae.lentK hcall [0] rfl qsZ qsZ ?_
  cases e1 with
  | false=>
    rw[if_neg (by decide)] at hr
    subst hr
    simp(maxSteps:=9^7) (disch:=try exact dI) only[push_cast,seval]
    exact aL [] qsZ
  | true=>
    rw[if_pos rfl] at hr
    have hb0:=hb.2.2 rfl
    by_cases hd3:3<d.length
    ·have hdI:(3:Int)<(d.length:Int):=by omega
     rw[if_pos (.inl hd3)] at hr
     subst hr
     simp(maxSteps:=9^7) (disch:=try exact dI) only[hdI,push_cast,seval]
     exact aL [] qsZ
    have hdI:¬ (3:Int)<(d.length:Int):=by omega
    by_cases hnm:100<nm.length
    ·have hnI:(100:Int)<(nm.length:Int):=by omega
     rw[if_pos (.inr (.inl hnm))] at hr
     subst hr
     simp(maxSteps:=9^7) (disch:=try exact dI) only[hdI,hnI,push_cast,seval]
     exact aL [] qsZ
    have hnI:¬ (100:Int)<(nm.length:Int):=by omega
    obtain⟨D,hD⟩:∃ D,D=d.any (fun v=>!(dd 12 300 v).1):=⟨_,rfl⟩
    rw[← hD] at hr
    simp(maxSteps:=9^7) (disch:=try exact dI) only[hdI,hnI,push_cast,seval]
    refine aB ([]) (fun j:Nat=>[(11,.pv (.int .i64 (j:Int)))]) (fun _=>[]) (fun j=>j≤d.length∧D=(d.drop j).any (fun v=>!(dd 12 300 v).1)) (fun j=>d.length - j) (0) ?_;intro e0 σ0 n0 h0;simp(maxSteps:=9^7) (disch:=try exact dI) only[push_cast,seval] at h0;obtain⟨rfl,rfl,rfl⟩:=h0;refine⟨?_,?_,?_⟩
    ·simp(maxSteps:=9^7) (disch:=try exact dI) only[push_cast,seval]
    ·exact⟨by simp,by simpa using hD⟩
    rintro j ⟨hj,hrj⟩
    by_cases hltj:j<d.length
    ·have hltjI:(j:Int)<(d.length:Int):=by omega
     obtain⟨y,hy⟩:∃ y,d[j]? = some y:=⟨_,List.getElem?_eq_getElem hltj⟩
     have hcy:=Mg y (hdo y (List.mem_of_getElem? hy))
     rw[ii hy] at hrj
     generalize (dd 12 300 y).1=b at *
     obtain⟨k2,a2,s2,t2,l2,f2⟩:=y
     simp only[Val.pv_mk] at hcy
     simp(maxSteps:=9^7) (disch:=try exact dI) only[hy,Option.map_some,Val.pv_mk,ag,push_cast,seval]
     refine ae.pure hcy rfl ?_
     cases b with
     | true=>
       simp(maxSteps:=9^7) (disch:=try exact dI) only[push_cast,seval]
       exact⟨j+1,bH qsZ,⟨by omega,by simpa using hrj⟩,by omega⟩
     | false=>
       rw[if_pos (.inr (.inr (by simpa using hrj)))] at hr
       subst hr
       simp(maxSteps:=9^7) (disch:=try exact dI) only[push_cast,seval]
       exact aL [] qsZ
    ·obtain rfl:j=d.length:=by omega
     rw[List.drop_length,List.any_nil] at hrj
     rw[hrj,if_neg (fun q=>q.elim hd3 fun q=>q.elim hnm (by decide))] at hr
     simp(maxSteps:=9^7) (disch:=try exact dI) only[Int.lt_irrefl,push_cast,seval]
     exact⟨(i+1,e2),bH qsZ,⟨by simp only;omega,hr,by simp only;omega,by simp only;omega⟩,by simp only;omega⟩
 ·obtain rfl:i=f.length:=by omega
  rw[List.drop_length,qp] at hr
  subst hr
  simp(maxSteps:=9^7) (disch:=try exact dI) only[Int.lt_irrefl,push_cast,seval]
  exact aL [] qsZ
theorem IQ:∀ n,n≤12→K0 n
 | 0,_=>fun v l hv h0 h1=>by
   obtain⟨k,m,M,s,w,e,f⟩:=v
   exact mC 0 (by omega) k m M s w e f l h0 h1 (.inr (.inl rfl))
 | n+1,hn=>fun v l hv h0 h1=>by
   obtain⟨k,m,M,s,w,e,f⟩:=v
   by_cases hA:l - 1<0
   ·exact mC (n+1) hn k m M s w e f l h0 h1 (.inl hA)
   by_cases hC:70<w.length
   ·exact mC (n+1) hn k m M s w e f l h0 h1 (.inr (.inr hC))
   ·exact E6 n hn (IQ n (by omega)) k m M s w e f hv l h0 h1 hA hC
theorem Mh (t:Typ)(ht:t.ok):ap Tryz.prog az 29 [t.pv] (.bool (cG 12 200 t).1):=by
 have h:=IQ 12 (by omega) t 200 ht (by omega) (by omega)
 generalize cG 12 200 t=q at *
 obtain⟨a,b,c,d,e,f,g⟩:=t
 simp only[Typ.pv_mk] at h ⊢
 refine ap.intro Lt (by simp[F29]) ?_
 simp(maxSteps:=9^7) (disch:=try exact dI) only[F29,push_cast,seval]
 refine ae.lentK h [1] rfl qsZ qsZ ?_
 simp(maxSteps:=9^7) (disch:=try exact dI) only[push_cast,seval]
end Go.Proofs.YtfepkhlgopjaoaaGreatDoor
-- many steps
namespace Go.Proofs.YtfepkhlgopjaoaaGreatDoor
open Go Go.Ab
attribute [local irreducible] vc
theorem Kj (x:TFd)(name:List UInt8):ap Tryz.prog az 237 [x.pv,.eptr [.str name] 0 0] (.bool (named name x)):=by
 obtain⟨a,b,c,⟨k,m,n,s,w,e,fs⟩,d⟩:=x
 refine ap.intro HB (by simp[Nl]) ?_
 simp(maxSteps:=9^7) (disch:=try exact dI) only[Nl,TFd.pv_mk,Typ.pv_mk,named,TFd.name,push_cast,seval]
 exact decide_eq_decide.2 Iff.rfl
theorem km {n:Nat}{k m M s:Int}{w:List (List UInt8)}{e:List Typ}{f:List TFd}(h:bd (n+1) (.mk k m M s w e f)){x:TFd}(hx:x∈f):ap Tryz.prog az 310 [x.pv] x.pv:=by
 simp only[bd] at h
 obtain⟨h1,h2,h3⟩:=h.2.2.2.2 x hx
 obtain⟨n',nm',nd',⟨k',m',M',s',w',e',f'⟩,d'⟩:=x
 exact pn _ _ _ _ _ _ _ _ _ _ _ (pm n _ h3) h1 h2
def bw (t:Typ)(name:List UInt8):Option TFd:=if t.kind=9∨t.kind=10 then t.fields.find? (named name) else none
theorem GU (n:Nat)(t:Typ)(name:List UInt8)(h:bd n t):ap Tryz.prog az 236 [t.pv,.clo 237 [] [.eptr [.str name] 0 0]] (tfR (bw t name)):=by
 cases n with
 | zero=>exact h.elim
 | succ n=>
 obtain⟨k,m,M,s,w,e,f⟩:=t
 have hcl:=fun x hx=>km h (x:=x) hx
 have hfl:f.length≤9000000000000:=by simp only[bd] at h;have:=h.2.2.1;omega
 clear h
 have h147:=w8 f 237 [.eptr [.str name] 0 0] (named name) (fun x _=>Kj x name) (by omega)
 refine ap.intro HC (by simp[Lv]) ?_
 by_cases hk:k=9∨k=10
 ·rw[show bw (.mk k m M s w e f) name=f.find? (named name) from if_pos hk]
  rcases bv (p:=named name) f 0 with ⟨h1,h2⟩ | ⟨i,x,h1,h2,h3⟩
  ·rw[h1]
   rw[h2] at h147
   rcases hk with rfl | rfl
   all_goals
    simp(maxSteps:=9^7) (disch:=try exact dI) only[Lv,Typ.pv_mk,push_cast,seval]
    refine ae.pure h147 rfl ?_
    simp(maxSteps:=9^7) (disch:=try exact dI) only[tfR,Option.getD_none,Option.isSome_none,iC,TFd.pv_mk,Typ.pv_mk,ag,push_cast,seval]
  ·rw[h2]
   rw[h3,Nat.zero_add] at h147
   have hc:=hcl x (List.mem_of_getElem? h1)
   obtain⟨x1,x2,x3,⟨y1,y2,y3,y4,y5,y6,y7⟩,x5⟩:=x
   simp only[TFd.pv_mk,Typ.pv_mk,ag] at hc
   have hi:¬ (i:Int)<0:=by omega
   rcases hk with rfl | rfl
   all_goals
    simp(maxSteps:=9^7) (disch:=try exact dI) only[Lv,Typ.pv_mk,push_cast,seval]
    refine ae.pure h147 rfl ?_
    simp(maxSteps:=9^7) (disch:=try exact dI) only[h1,Option.map_some,TFd.pv_mk,Typ.pv_mk,ag,push_cast,seval]
    refine ae.pure hc rfl ?_
    simp(maxSteps:=9^7) (disch:=try exact dI) only[tfR,Option.getD_some,Option.isSome_some,TFd.pv_mk,Typ.pv_mk,ag,push_cast,seval]
 ·rw[show bw (.mk k m M s w e f) name=none from if_neg hk]
  have h9:¬ k=9:=by omega
  have h10:¬ k=10:=by omega
  simp(maxSteps:=9^7) (disch:=try exact dI) only[Lv,Typ.pv_mk,tfR,Option.getD_none,Option.isSome_none,iC,TFd.pv_mk,ag,push_cast,seval]
theorem pg (n:Nat)(t:Typ)(name:List UInt8)(h:bd n t):ap Tryz.prog az 146 [t.pv,.str name] (tfR (bw t name)):=by
 have hf:=GU n t name h
 generalize bw t name=o at hf ⊢
 obtain⟨k,m,M,s,w,e,f⟩:=t
 simp only[Typ.pv_mk] at hf
 refine ap.intro H2 (by simp[L1]) ?_
 cases o with
 | none=>
   simp only[tfR,Option.getD_none,Option.isSome_none,iC,TFd.pv_mk,Typ.pv_mk,ag] at hf ⊢
   simp(maxSteps:=9^7) (disch:=try exact dI) only[L1,Typ.pv_mk,push_cast,seval]
   refine ae.pure hf rfl ?_
   simp(maxSteps:=9^7) (disch:=try exact dI) only[push_cast,seval]
 | some x=>
   obtain⟨x1,x2,x3,⟨y1,y2,y3,y4,y5,y6,y7⟩,x5⟩:=x
   simp only[tfR,Option.getD_some,Option.isSome_some,TFd.pv_mk,Typ.pv_mk,ag] at hf ⊢
   simp(maxSteps:=9^7) (disch:=try exact dI) only[L1,Typ.pv_mk,push_cast,seval]
   refine ae.pure hf rfl ?_
   simp(maxSteps:=9^7) (disch:=try exact dI) only[push_cast,seval]
end Go.Proofs.YtfepkhlgopjaoaaGreatDoor
