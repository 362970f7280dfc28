/- A part of the proof for CodecUsualCardSaid. -/
import Derived.Test.YtfepkhlgopjaoaaGreatDoorUsF
import Derived.Test.YtfepkhlgopjaoaaGreatDoorUsKD2
import Derived.Test.YtfepkhlgopjaoaaGreatDoorUsKSh
import Derived.Test.YtfepkhlgopjaoaaGreatDoorUsKW9
set_option linter.unusedVariables false
set_option linter.unusedSimpArgs false
set_option maxRecDepth 100000
-- many steps
namespace Go.Proofs.YtfepkhlgopjaoaaGreatDoor
open Go Go.Ab
attribute [local irreducible] vc
def oy (rec:Int→Val→Bool×Int):Int→List Val→Bool×Int
 | l,[]=>(true,l)
 | l,x::r=>if (rec l x).1=true then oy rec (rec l x).2 r else (false,(rec l x).2)
def s7 (rec:Int→Val→Bool×Int):Int→List Fld→Bool×Int
 | l,[]=>(true,l)
 | l,x::r=>if 100<x.name.length then (false,l) else if (rec l x.value).1=true then s7 rec (rec l x.value).2 r else (false,(rec l x.value).2)
def dd:Nat→Int→Val→Bool×Int
 | 0,l,_=>(false,l - 1)
 | n+1,l,v=>if l - 1<0∨2000<v.text.length then (false,l - 1) else if (oy (dd n) (l - 1) v.lst).1=true then s7 (dd n) (oy (dd n) (l - 1) v.lst).2 v.fields else (false,(oy (dd n) (l - 1) v.lst).2)
def zG {α:Type}(rec:Int→α→Bool×Int):Prop:=∀ l v,0≤l→l≤300→-1≤(rec l v).2∧(rec l v).2≤300∧((rec l v).1=true→0≤(rec l v).2)
theorem ox {rec:Int→Val→Bool×Int}(h:zG rec):zG (oy rec)
 | l,[],h0,h1=>⟨by simp only[oy];omega,h1,fun _=>h0⟩
 | l,x::r,h0,h1=>by
   have hx:=h l x h0 h1
   simp only[oy]
   by_cases hb:(rec l x).1=true
   ·rw[if_pos hb];exact ox h _ r (hx.2.2 hb) hx.2.1
   ·rw[if_neg hb];exact⟨hx.1,hx.2.1,fun e=>absurd e (by simp)⟩
theorem oz {rec:Int→Val→Bool×Int}(h:zG rec):zG (s7 rec)
 | l,[],h0,h1=>⟨by simp only[s7];omega,h1,fun _=>h0⟩
 | l,x::r,h0,h1=>by
   have hx:=h l x.value h0 h1
   simp only[s7]
   by_cases hn:100<x.name.length
   ·rw[if_pos hn];exact⟨by simp only;omega,h1,fun _=>h0⟩
   rw[if_neg hn]
   by_cases hb:(rec l x.value).1=true
   ·rw[if_pos hb];exact oz h _ r (hx.2.2 hb) hx.2.1
   ·rw[if_neg hb];exact⟨hx.1,hx.2.1,fun e=>absurd e (by simp)⟩
theorem f5:∀ n,zG (dd n)
 | 0,l,v,h0,h1=>⟨by simp only[dd];omega,by simp only[dd];omega,fun e=>absurd e (by simp[dd])⟩
 | n+1,l,v,h0,h1=>by
   simp only[dd]
   by_cases hc:l - 1<0∨2000<v.text.length
   ·rw[if_pos hc];exact⟨by simp only;omega,by simp only;omega,fun e=>absurd e (by simp)⟩
   rw[if_neg hc]
   have hl:=ox (f5 n) (l - 1) v.lst (by omega) (by omega)
   by_cases hb:(oy (dd n) (l - 1) v.lst).1=true
   ·rw[if_pos hb];exact oz (f5 n) _ v.fields (hl.2.2 hb) hl.2.1
   ·rw[if_neg hb];exact⟨hl.1,hl.2.1,fun e=>absurd e (by simp)⟩
theorem uf {rec:Int→Val→Bool×Int}{f:List Val}{i:Nat}{g:Val}(h:f[i]? = some g)(l:Int):oy rec l (f.drop i)=if (rec l g).1=true then oy rec (rec l g).2 (f.drop (i+1)) else (false,(rec l g).2):=by
 obtain⟨hi,he⟩:=List.getElem?_eq_some_iff.1 h
 rw[List.drop_eq_getElem_cons hi,he,oy]
theorem ug {rec:Int→Val→Bool×Int}{f:List Fld}{i:Nat}{g:Fld}(h:f[i]? = some g)(l:Int):s7 rec l (f.drop i)=if 100<g.name.length then (false,l) else if (rec l g.value).1=true then s7 rec (rec l g.value).2 (f.drop (i+1)) else (false,(rec l g.value).2):=by
 obtain⟨hi,he⟩:=List.getElem?_eq_some_iff.1 h
 rw[List.drop_eq_getElem_cons hi,he,s7]
theorem ii {α:Type}{p:α→Bool}{l:List α}{i:Nat}{x:α}(h:l[i]? = some x):(l.drop i).any p=(p x||(l.drop (i+1)).any p):=by
 obtain⟨hi,he⟩:=List.getElem?_eq_some_iff.1 h
 rw[List.drop_eq_getElem_cons hi,he,List.any_cons]
def kj (rec:Int→Typ→Bool×Int):Int→List Typ→Bool×Int
 | l,[]=>(true,l)
 | l,x::r=>if (rec l x).1=true then kj rec (rec l x).2 r else (false,(rec l x).2)
def qp (rec:Int→Typ→Bool×Int):Int→List TFd→Bool×Int
 | l,[]=>(true,l)
 | l,x::r=>if (rec l x.typ).1=true then (if 3<x.dflt.length∨100<x.name.length∨x.dflt.any (fun v=>!(dd 12 300 v).1)=true then (false,(rec l x.typ).2) else qp rec (rec l x.typ).2 r) else (false,(rec l x.typ).2)
def cG:Nat→Int→Typ→Bool×Int
 | 0,l,_=>(false,l - 1)
 | n+1,l,t=>if l - 1<0∨70<t.words.length∨t.words.any (fun w=>decide (2000<w.length))=true then (false,l - 1) else if (kj (cG n) (l - 1) t.elem).1=true then qp (cG n) (kj (cG n) (l - 1) t.elem).2 t.fields else (false,(kj (cG n) (l - 1) t.elem).2)
theorem oA {rec:Int→Typ→Bool×Int}(h:zG rec):zG (kj rec)
 | l,[],h0,h1=>⟨by simp only[kj];omega,h1,fun _=>h0⟩
 | l,x::r,h0,h1=>by
   have hx:=h l x h0 h1
   simp only[kj]
   by_cases hb:(rec l x).1=true
   ·rw[if_pos hb];exact oA h _ r (hx.2.2 hb) hx.2.1
   ·rw[if_neg hb];exact⟨hx.1,hx.2.1,fun e=>absurd e (by simp)⟩
theorem oB {rec:Int→Typ→Bool×Int}(h:zG rec):zG (qp rec)
 | l,[],h0,h1=>⟨by simp only[qp];omega,h1,fun _=>h0⟩
 | l,x::r,h0,h1=>by
   have hx:=h l x.typ h0 h1
   simp only[qp]
   by_cases hb:(rec l x.typ).1=true
   ·rw[if_pos hb]
    split
    ·exact⟨hx.1,hx.2.1,fun e=>absurd e (by simp)⟩
    ·exact oB h _ r (hx.2.2 hb) hx.2.1
   ·rw[if_neg hb];exact⟨hx.1,hx.2.1,fun e=>absurd e (by simp)⟩
theorem f6:∀ n,zG (cG n)
 | 0,l,v,h0,h1=>⟨by simp only[cG];omega,by simp only[cG];omega,fun e=>absurd e (by simp[cG])⟩
 | n+1,l,v,h0,h1=>by
   simp only[cG]
   split
   ·exact⟨by simp only;omega,by simp only;omega,fun e=>absurd e (by simp)⟩
   rename_i hc
   have hl:=oA (f6 n) (l - 1) v.elem (by omega) (by omega)
   by_cases hb:(kj (cG n) (l - 1) v.elem).1=true
   ·rw[if_pos hb];exact oB (f6 n) _ v.fields (hl.2.2 hb) hl.2.1
   ·rw[if_neg hb];exact⟨hl.1,hl.2.1,fun e=>absurd e (by simp)⟩
theorem uj {rec:Int→Typ→Bool×Int}{f:List Typ}{i:Nat}{g:Typ}(h:f[i]? = some g)(l:Int):kj rec l (f.drop i)=if (rec l g).1=true then kj rec (rec l g).2 (f.drop (i+1)) else (false,(rec l g).2):=by
 obtain⟨hi,he⟩:=List.getElem?_eq_some_iff.1 h
 rw[List.drop_eq_getElem_cons hi,he,kj]
theorem ul {rec:Int→Typ→Bool×Int}{f:List TFd}{i:Nat}{g:TFd}(h:f[i]? = some g)(l:Int):qp rec l (f.drop i)=if (rec l g.typ).1=true then (if 3<g.dflt.length∨100<g.name.length∨g.dflt.any (fun v=>!(dd 12 300 v).1)=true then (false,(rec l g.typ).2) else qp rec (rec l g.typ).2 (f.drop (i+1))) else (false,(rec l g.typ).2):=by
 obtain⟨hi,he⟩:=List.getElem?_eq_some_iff.1 h
 rw[List.drop_eq_getElem_cons hi,he,qp]
end Go.Proofs.YtfepkhlgopjaoaaGreatDoor
-- many steps
namespace Go.Proofs.YtfepkhlgopjaoaaGreatDoor
open Go Go.Ab
attribute [local irreducible] vc
def KZ (n:Nat):Prop:=∀ (v:Val) (l:Int),v.ok→0≤l→l≤300 →
 cq Tryz.prog az 1 35 [.pv v.pv,.pv (.int .i64 (n:Int)),.ptr 0 0] [.cells 3 true [.pv (.int .i64 l)]] (.pv (.bool (dd n l v).1)) [.cells 3 true [.pv (.int .i64 (dd n l v).2)]]
theorem uh (n:Nat)(hn:n≤12)(k a s:Int)(t:List UInt8)(ls:List Val)(fs:List Fld)(l:Int)(h0:0≤l)(h1:l≤300)(h:l - 1<0∨n=0∨2000<t.length) :
  cq Tryz.prog az 1 35 [.pv (Val.mk k a s t ls fs).pv,.pv (.int .i64 (n:Int)),.ptr 0 0] [.cells 3 true [.pv (.int .i64 l)]] (.pv (.bool (dd n l (.mk k a s t ls fs)).1)) [.cells 3 true [.pv (.int .i64 (dd n l (.mk k a s t ls fs)).2)]]:=by
 have e:dd n l (.mk k a s t ls fs)=(false,l - 1):=by
  cases n with
  | zero=>rfl
  | succ n => rw[dd,if_pos];rcases h with h | h | h
              ·exact .inl h
              ·cases h
              ·exact .inr h
 rw[e]
 simp only[Val.pv_mk]
 by_cases hA:l - 1<0
 ·refine cq.intro pF (by simp[F35]) ?_
  simp(maxSteps:=9^7) (disch:=try exact dI) only[F35,hA,push_cast,seval]
  exact aL [] qsZ
 by_cases hB:n=0
 ·subst hB
  refine cq.intro pF (by simp[F35]) ?_
  simp(maxSteps:=9^7) (disch:=try exact dI) only[F35,hA,push_cast,seval]
  exact aL [] qsZ
 ·have hC:(2000:Int)<(t.length:Int):=by omega
  have hBI:¬ (n:Int)=0:=by omega
  refine cq.intro pF (by simp[F35]) ?_
  simp(maxSteps:=9^7) (disch:=try exact dI) only[F35,hA,hBI,hC,push_cast,seval]
  exact aL [] qsZ
set_option maxHeartbeats 4000000 in
theorem E5 (n:Nat)(hn:n+1≤12)(ih:KZ n)(k a s:Int)(t:List UInt8)(ls:List Val)(fs:List Fld)(hv:(Val.mk k a s t ls fs).ok)(l:Int)(h0:0≤l)(h1:l≤300)(h:¬ (l - 1<0∨2000<t.length)) :
  cq Tryz.prog az 1 35 [.pv (Val.mk k a s t ls fs).pv,.pv (.int .i64 ((n+1:Nat):Int)),.ptr 0 0] [.cells 3 true [.pv (.int .i64 l)]] (.pv (.bool (dd (n+1) l (.mk k a s t ls fs)).1)) [.cells 3 true [.pv (.int .i64 (dd (n+1) l (.mk k a s t ls fs)).2)]]:=by
 have hA:¬ l - 1<0:=fun q=>h (.inl q)
 have hC:¬ (2000:Int)<(t.length:Int):=fun q=>h (.inr (by omega))
 have hB:¬ ((n+1:Nat):Int)=0:=by omega
 rw[Val.ok_mk] at hv
 obtain⟨_,_,_,_,hll,hlo,hfl,hfo⟩:=hv
 obtain⟨R,hR⟩:∃ R,R=oy (dd n) (l - 1) ls:=⟨_,rfl⟩
 obtain⟨Q,hQ⟩:∃ Q,Q=(if R.1=true then s7 (dd n) R.2 fs else (false,R.2)):=⟨_,rfl⟩
 have hRQ:dd (n+1) l (.mk k a s t ls fs)=Q:=by
  rw[hQ,hR,dd,if_neg (by simpa only[Val.text] using h)]
  rfl
 rw[hRQ]
 clear hRQ h
 obtain⟨nn,hnn⟩:∃ nn:Int,nn=((n+1:Nat):Int):=⟨_,rfl⟩
 have hn1:nn - 1=(n:Int):=by omega
 have hn0:1≤nn∧nn≤12:=by omega
 rw[← hnn] at hB ⊢
 clear hnn
 simp only[Val.pv_mk]
 refine cq.intro pF (by simp[F35]) ?_
 simp(maxSteps:=9^7) (disch:=try exact dI) only[F35,hA,hB,hC,push_cast,seval]
 refine aB ([]) (fun x:Nat×Int=>[(7,.pv (.int .i64 (x.1:Int)))]) (fun x=>[(0,.cells 3 true [.pv (.int .i64 x.2)])]) (fun x=>x.1≤ls.length∧R=oy (dd n) x.2 (ls.drop x.1)∧0≤x.2∧x.2≤300) (fun x=>ls.length - x.1) ((0,l - 1)) ?_;intro e0 σ0 n0 h0;simp(maxSteps:=9^7) (disch:=try exact dI) only[push_cast,seval] at h0;obtain⟨rfl,rfl,rfl⟩:=h0;refine⟨?_,?_,?_⟩
 ·simp(maxSteps:=9^7) (disch:=try exact dI) only[push_cast,seval]
 ·exact⟨by simp,by simpa using hR,by simp only;omega,by simp only;omega⟩
 rintro⟨i,L⟩ ⟨hi,hr,hL,hL2⟩
 simp only at hi hr hL hL2
 by_cases hlt:i<ls.length
 ·have hltI:(i:Int)<(ls.length:Int):=by omega
  obtain⟨x,hx⟩:∃ x,ls[i]? = some x:=⟨_,List.getElem?_eq_getElem hlt⟩
  have hcall:=ih x L (hlo x (List.mem_of_getElem? hx)) hL hL2
  have hb:=f5 n L x hL hL2
  rw[uf hx] at hr
  obtain⟨⟨e1,e2⟩,he⟩:∃ q,q=dd n L x:=⟨_,rfl⟩
  rw[← he] at hcall hb hr
  simp only at hcall hb hr
  obtain⟨k',a',s',t',l',f'⟩:=x
  simp only[Val.pv_mk] at hcall
  simp(maxSteps:=9^7) (disch:=try exact dI) only[hx,Option.map_some,Val.pv_mk,ag,hn1,push_cast,seval]
  refine ae.lentK hcall [0] rfl qsZ qsZ ?_
  cases e1 with
  | true=>
    rw[if_pos rfl] at hr
    have hb0:=hb.2.2 rfl
    simp(maxSteps:=9^7) (disch:=try exact dI) only[push_cast,seval]
    exact⟨(i+1,e2),bH qsZ,⟨by simp only;omega,hr,by simp only;omega,by simp only;omega⟩,by simp only;omega⟩
  | false=>
    rw[if_neg (by decide)] at hr
    subst hr
    rw[if_neg (by simp)] at hQ
    subst hQ
    simp(maxSteps:=9^7) (disch:=try exact dI) only[push_cast,seval]
    exact aL [] qsZ
 ·obtain rfl:i=ls.length:=by omega
  rw[List.drop_length,oy] at hr
  subst hr
  rw[if_pos rfl] at hQ
  simp only at hQ
  simp(maxSteps:=9^7) (disch:=try exact dI) only[Int.lt_irrefl,push_cast,seval]
  refine aB ([]) (fun x:Nat×Int=>[(8,.pv (.int .i64 (x.1:Int)))]) (fun x=>[(0,.cells 3 true [.pv (.int .i64 x.2)])]) (fun x=>x.1≤fs.length∧Q=s7 (dd n) x.2 (fs.drop x.1)∧0≤x.2∧x.2≤300) (fun x=>fs.length - x.1) ((0,L)) ?_;intro e0 σ0 n0 h0;simp(maxSteps:=9^7) (disch:=try exact dI) only[push_cast,seval] at h0;obtain⟨rfl,rfl,rfl⟩:=h0;refine⟨?_,?_,?_⟩
  ·simp(maxSteps:=9^7) (disch:=try exact dI) only[push_cast,seval]
  ·exact⟨by simp,by simpa using hQ,hL,hL2⟩
  clear hQ hi
  rintro⟨i,L⟩ ⟨hi,hr,hL,hL2⟩
  simp only at hi hr hL hL2
  by_cases hlt:i<fs.length
  ·have hltI:(i:Int)<(fs.length:Int):=by omega
   obtain⟨x,hx⟩:∃ x,fs[i]? = some x:=⟨_,List.getElem?_eq_getElem hlt⟩
   have hxo:=hfo x (List.mem_of_getElem? hx)
   rw[ug hx] at hr
   obtain⟨nm,x⟩:=x
   rw[Fld.ok_mk] at hxo
   replace hr:Q=(if 100<nm.length then (false,L) else if (dd n L x).1=true then s7 (dd n) (dd n L x).2 (fs.drop (i+1)) else (false,(dd n L x).2)):=hr
   by_cases hnm:100<nm.length
   ·rw[if_pos hnm] at hr
    subst hr
    have hnmI:(100:Int)<(nm.length:Int):=by omega
    obtain⟨k',a',s',t',l',f'⟩:=x
    simp(maxSteps:=9^7) (disch:=try exact dI) only[hx,Option.map_some,Fld.pv_mk,Val.pv_mk,ag,hnmI,push_cast,seval]
    exact aL [] qsZ
   rw[if_neg hnm] at hr
   have hnmI:¬ (100:Int)<(nm.length:Int):=by omega
   have hcall:=ih x L hxo.2 hL hL2
   have hb:=f5 n L x hL hL2
   obtain⟨⟨e1,e2⟩,he⟩:∃ q,q=dd n L x:=⟨_,rfl⟩
   rw[← he] at hcall hb hr
   simp only at hcall hb hr
   obtain⟨k',a',s',t',l',f'⟩:=x
   simp only[Val.pv_mk] at hcall
   simp(maxSteps:=9^7) (disch:=try exact dI) only[hx,Option.map_some,Fld.pv_mk,Val.pv_mk,ag,hn1,hnmI,push_cast,seval]
   refine ae.lentK hcall [0] rfl qsZ qsZ ?_
   cases e1 with
   | true=>
     rw[if_pos rfl] at hr
     have hb0:=hb.2.2 rfl
     simp(maxSteps:=9^7) (disch:=try exact dI) only[push_cast,seval]
     exact⟨(i+1,e2),bH qsZ,⟨by simp only;omega,hr,by simp only;omega,by simp only;omega⟩,by simp only;omega⟩
   | false=>
     rw[if_neg (by decide)] at hr
     subst hr
     simp(maxSteps:=9^7) (disch:=try exact dI) only[push_cast,seval]
     exact aL [] qsZ
  ·obtain rfl:i=fs.length:=by omega
   rw[List.drop_length,s7] at hr
   subst hr
   simp(maxSteps:=9^7) (disch:=try exact dI) only[Int.lt_irrefl,push_cast,seval]
   exact aL [] qsZ
theorem IP:∀ n,n≤12→KZ n
 | 0,_=>fun v l hv h0 h1=>by
   obtain⟨k,a,s,t,ls,fs⟩:=v
   exact uh 0 (by omega) k a s t ls fs l h0 h1 (.inr (.inl rfl))
 | n+1,hn=>fun v l hv h0 h1=>by
   obtain⟨k,a,s,t,ls,fs⟩:=v
   by_cases h:l - 1<0∨2000<t.length
   ·exact uh (n+1) hn k a s t ls fs l h0 h1 (h.elim .inl fun q=>.inr (.inr q))
   ·exact E5 n hn (IP n (by omega)) k a s t ls fs hv l h0 h1 h
theorem Mg (v:Val)(hv:v.ok):ap Tryz.prog az 15 [v.pv] (.bool (dd 12 300 v).1):=by
 have h:=IP 12 (by omega) v 300 hv (by omega) (by omega)
 generalize dd 12 300 v=q at *
 obtain⟨a,b,c,d,e,f⟩:=v
 simp only[Val.pv_mk] at h ⊢
 refine ap.intro LG (by simp[F15]) ?_
 simp(maxSteps:=9^7) (disch:=try exact dI) only[F15,push_cast,seval]
 refine ae.lentK h [1] rfl qsZ qsZ ?_
 simp(maxSteps:=9^7) (disch:=try exact dI) only[push_cast,seval]
end Go.Proofs.YtfepkhlgopjaoaaGreatDoor
