/- A part of the proof for CodecChecksCardSaid. -/
import Derived.Test.YtfepkhlgopjaoaaGreatDoorCkK10
import Derived.Test.YtfepkhlgopjaoaaGreatDoorCkKW9
import Derived.Test.YtfepkhlgopjaoaaGreatDoorCkF
import Derived.Test.YtfepkhlgopjaoaaGreatDoorCkKD2
import Derived.Test.YtfepkhlgopjaoaaGreatDoorCkKSh
import Derived.Test.YtfepkhlgopjaoaaGreatDoorCkCore6
set_option linter.unusedVariables false
set_option linter.unusedSimpArgs false
set_option maxRecDepth 100000
-- many steps
namespace Go.Proofs.YtfepkhlgopjaoaaGreatDoor
open Go Go.Ab
attribute [local irreducible] vc
def vC (s:List UInt8):Bool:=!wrB s
theorem Mw (s:List UInt8)(hs:s.length≤140737488351232):aq Tryz.prog aA 62 [.str s] (.bool (vC s)):=by
 have h:=sX s hs
 unfold vC
 generalize wrB s=b at *
 refine aq.intro KJ (by simp[F62]) ?_
 simp(maxSteps:=9^7) (disch:=try exact dI) only[F62,push_cast,seval]
 refine ab.pure h rfl ?_
 simp(maxSteps:=9^7) (disch:=try exact dI) only[push_cast,seval]
theorem F8 (l:List (List UInt8))(hw:∀ x∈l,x.length≤140737488351232)(hl:l.length≤9000000000000):aq Tryz.prog aA 106 [.list (l.map PV.str),.clo 62 [] []] (.int .i64 (dm vC l 0)):=by
 refine aq.intro HK (by simp[Ng]) ?_
 simp(maxSteps:=9^7) (disch:=try exact dI) only[Ng,push_cast,seval]
 refine aB ([]) (fun m:Nat=>[(8,.pv (.int .i64 (m:Int)))]) (fun m=>[]) (fun m=>m≤l.length∧dm vC l 0=dm vC (l.drop m) m) (fun m=>l.length - m) (0) ?_;intro e0 σ0 n0 h0;simp(maxSteps:=9^7) (disch:=try exact dI) only[push_cast,seval] at h0;obtain⟨rfl,rfl,rfl⟩:=h0;refine⟨?_,?_,?_⟩
 ·simp(maxSteps:=9^7) (disch:=try exact dI) only[push_cast,seval]
 ·exact⟨by omega,by simp⟩
 ·rintro m ⟨hm,he⟩
  by_cases hlt:m<l.length
  ·have hltI:(m:Int)<l.length:=by omega
   obtain⟨x,hx⟩:∃ x,l[m]? = some x:=⟨_,List.getElem?_eq_getElem hlt⟩
   have hcall:=Mw x (hw x (List.mem_of_getElem? hx))
   simp(maxSteps:=9^7) (disch:=try exact dI) only[hx,Option.map_some,push_cast,seval]
   refine ab.pure hcall rfl ?_
   cases hqx:vC x with
   | true=>
     rw[he,dw hx hqx]
     simp(maxSteps:=9^7) (disch:=try exact dI) only[push_cast,seval]
   | false=>
     rw[cb hx hqx] at he
     simp(maxSteps:=9^7) (disch:=try exact dI) only[push_cast,seval]
     exact⟨m+1,bQ qsZ,⟨by omega,he⟩,by omega⟩
  ·have hltI:¬ (m:Int)<l.length:=by omega
   rw[he,dx hlt]
   simp(maxSteps:=9^7) (disch:=try exact dI) only[push_cast,seval]
theorem rT (l:List (List UInt8))(hw:∀ x∈l,x.length≤140737488351232)(hl:l.length≤9000000000000):aq Tryz.prog aA 61 [.list (l.map PV.str),.clo 62 [] []] (.bool (l.any vC)):=by
 have h94:=F8 l hw hl
 have hfa:=cL (p:=vC) l
 refine aq.intro KK (by simp[F61]) ?_
 rcases bv (p:=vC) l 0 with ⟨h1,h2⟩ | ⟨k,x,h1,h2,h3⟩
 ·rw[h2] at h94
  rw[h1] at hfa
  rw[← hfa]
  simp(maxSteps:=9^7) (disch:=try exact dI) only[F61,push_cast,seval]
  refine ab.pure h94 rfl ?_
  simp(maxSteps:=9^7) (disch:=try exact dI) only[push_cast,seval]
  exact .refl _
 ·rw[h3] at h94
  rw[h2] at hfa
  rw[← hfa]
  have hk:(0:Int)≤((0+k:Nat):Int):=by omega
  generalize ((0+k:Nat):Int)=z at *
  simp(maxSteps:=9^7) (disch:=try exact dI) only[F61,push_cast,seval]
  refine ab.pure h94 rfl ?_
  simp(maxSteps:=9^7) (disch:=try exact dI) only[push_cast,seval]
  exact .refl _
def dA:Typ→Bool
 | .mk k m _ _ w _ _=>if k=4∧0<w.length then w.any fun x=>decide (x=[]) else (decide (k=4)||decide (k=5))&&decide (m=0)
theorem Gw (k m M s:Int)(w:List (List UInt8))(e:List Typ)(f:List TFd)(hw:w.length≤9000000000000):aq Tryz.prog aA 60 [(Typ.mk k m M s w e f).pv] (.bool (dA (.mk k m M s w e f))):=by
 have hc:=iW w [] hw
 refine aq.intro KL (by simp[F60]) ?_
 by_cases h4:k=4
 ·subst h4
  by_cases h0:0<w.length
  ·have h0I:(0:Int)<(w.length:Int):=by omega
   rw[show dA (.mk 4 m M s w e f)=w.any fun x=>decide (x=[]) from if_pos ⟨rfl,h0⟩]
   generalize (w.any fun x=>decide (x=[]))=b at hc ⊢
   simp(maxSteps:=9^7) (disch:=try exact dI) only[F60,Typ.pv_mk,h0I,push_cast,seval]
   refine ab.pure hc rfl ?_
   simp(maxSteps:=9^7) (disch:=try exact dI) only[push_cast,seval]
  ·have h0I:¬ (0:Int)<(w.length:Int):=by omega
   rw[show dA (.mk 4 m M s w e f)=decide (m=0) by simp only[dA];rw[if_neg (fun h=>h0 h.2)];simp]
   by_cases hm:m=0
   ·rw[decide_eq_true hm]
    simp(maxSteps:=9^7) (disch:=try exact dI) only[F60,Typ.pv_mk,h0I,hm,push_cast,seval]
   ·rw[decide_eq_false hm]
    simp(maxSteps:=9^7) (disch:=try exact dI) only[F60,Typ.pv_mk,h0I,hm,push_cast,seval]
 ·by_cases h5:k=5
  ·subst h5
   rw[show dA (.mk 5 m M s w e f)=decide (m=0) by simp only[dA];rw[if_neg (fun h=>h4 h.1)];simp]
   by_cases hm:m=0
   ·rw[decide_eq_true hm]
    simp(maxSteps:=9^7) (disch:=try exact dI) only[F60,Typ.pv_mk,hm,push_cast,seval]
   ·rw[decide_eq_false hm]
    simp(maxSteps:=9^7) (disch:=try exact dI) only[F60,Typ.pv_mk,hm,push_cast,seval]
  ·rw[show dA (.mk k m M s w e f)=false by simp only[dA];rw[if_neg (fun h=>h4 h.1)];simp[h4,h5]]
   simp(maxSteps:=9^7) (disch:=try exact dI) only[F60,Typ.pv_mk,h4,h5,push_cast,seval]
end Go.Proofs.YtfepkhlgopjaoaaGreatDoor
-- many steps
namespace Go.Proofs.YtfepkhlgopjaoaaGreatDoor
open Go Go.Ab
attribute [local irreducible] vc
def gL (w:List Int):List PV:=w.map (PV.int .i64)
theorem bO (l:List Int):(gL l).length=l.length:=by simp[gL]
theorem jy {l:List Int}{i:Nat}{x:Int}(h:l[i]? = some x):(gL l)[i]? = some (.int .i64 x):=by simp[gL,h]
def sK (x:Int):Bool:=decide (x<1)||decide (4096<x)
theorem BX (l:List Int)(g:Nat)(q:Int→Bool)(hq:∀ x∈l,aq Tryz.prog aA g [.int .i64 x] (.bool (q x)))(hl:l.length≤9000000000000) :
  aq Tryz.prog aA 58 [.list (gL l),.clo g [] []] (.int .i64 (dm q l 0)):=by
 refine aq.intro KN (by simp[F58]) ?_
 simp(maxSteps:=9^7) (disch:=try exact dI) only[F58,bO,push_cast,seval]
 refine aB ([]) (fun m:Nat=>[(8,.pv (.int .i64 (m:Int)))]) (fun m=>[]) (fun m=>m≤l.length∧dm q l 0=dm q (l.drop m) m) (fun m=>l.length - m) (0) ?_;intro e0 σ0 n0 h0;simp(maxSteps:=9^7) (disch:=try exact dI) only[push_cast,seval] at h0;obtain⟨rfl,rfl,rfl⟩:=h0;refine⟨?_,?_,?_⟩
 ·simp(maxSteps:=9^7) (disch:=try exact dI) only[push_cast,seval]
 ·exact⟨by omega,by simp⟩
 ·rintro m ⟨hm,he⟩
  by_cases hlt:m<l.length
  ·have hltI:(m:Int)<l.length:=by omega
   obtain⟨x,hx⟩:∃ x,l[m]? = some x:=⟨_,List.getElem?_eq_getElem hlt⟩
   have hcall:=hq x (List.mem_of_getElem? hx)
   have hx':=jy hx
   simp(maxSteps:=9^7) (disch:=try exact dI) only[hx',push_cast,seval]
   refine ab.pure hcall rfl ?_
   cases hqx:q x with
   | true=>
     rw[he,dw hx hqx]
     simp(maxSteps:=9^7) (disch:=try exact dI) only[push_cast,seval]
   | false=>
     rw[cb hx hqx] at he
     simp(maxSteps:=9^7) (disch:=try exact dI) only[push_cast,seval]
     exact⟨m+1,bQ qsZ,⟨by omega,he⟩,by omega⟩
  ·have hltI:¬ (m:Int)<l.length:=by omega
   rw[he,dx hlt]
   simp(maxSteps:=9^7) (disch:=try exact dI) only[push_cast,seval]
theorem rR (l:List Int)(g:Nat)(q:Int→Bool)(hq:∀ x∈l,aq Tryz.prog aA g [.int .i64 x] (.bool (q x)))(hl:l.length≤9000000000000) :
  aq Tryz.prog aA 31 [.list (gL l),.clo g [] []] (.bool (l.any q)):=by
 have h94:=BX l g q hq hl
 have hfa:=cL (p:=q) l
 refine aq.intro KW (by simp[F31]) ?_
 rcases bv (p:=q) l 0 with ⟨h1,h2⟩ | ⟨k,x,h1,h2,h3⟩
 ·rw[h2] at h94
  rw[h1] at hfa
  rw[← hfa]
  simp(maxSteps:=9^7) (disch:=try exact dI) only[F31,push_cast,seval]
  refine ab.pure h94 rfl ?_
  simp(maxSteps:=9^7) (disch:=try exact dI) only[push_cast,seval]
  rfl
 ·rw[h3] at h94
  rw[h2] at hfa
  rw[← hfa]
  have hk:(0:Int)≤((0+k:Nat):Int):=by omega
  generalize ((0+k:Nat):Int)=z at *
  simp(maxSteps:=9^7) (disch:=try exact dI) only[F31,push_cast,seval]
  refine ab.pure h94 rfl ?_
  simp(maxSteps:=9^7) (disch:=try exact dI) only[push_cast,seval]
  rfl
end Go.Proofs.YtfepkhlgopjaoaaGreatDoor
-- many steps
namespace Go.Proofs.YtfepkhlgopjaoaaGreatDoor
open Go Go.Ab
attribute [local irreducible] vc
def pO (g:TFd)(n:Int):Int:=if n<1∨4096<n then 2 else if n<pr g.typ then 5 else if g.need=2∧dA g.typ=true then 19 else if g.typ.words.any vC=true then 6 else 0
def Av:List TFd→List Int→Int→Int
 | g::f,n::w,s=>if pO g n=0 then Av f w (s+n) else pO g n
 | [],_,s=>if 65536<s then 9 else 0
 | _,[],s=>if 65536<s then 9 else 0
theorem ua {f:List TFd}{w:List Int}{i:Nat}{g:TFd}{n:Int}(hg:f[i]? = some g)(hn:w[i]? = some n)(s:Int):Av (f.drop i) (w.drop i) s=if pO g n=0 then Av (f.drop (i+1)) (w.drop (i+1)) (s+n) else pO g n:=by
 have h1:=(List.getElem?_eq_some_iff.1 hg)
 have h2:=(List.getElem?_eq_some_iff.1 hn)
 obtain⟨hi,he⟩:=h1
 obtain⟨hj,hf⟩:=h2
 rw[List.drop_eq_getElem_cons hi,List.drop_eq_getElem_cons hj,he,hf,Av]
noncomputable def IM (t:Typ)(w:List Int):Int:=if flE t=0 then (if w.length<t.fields.length then 4 else if t.fields.length<w.length then 5 else Av t.fields w 0) else flE t
structure FldOk (g:TFd):Prop where
 wid:aq Tryz.prog aA 54 [g.typ.pv] (.int .i64 (pr g.typ))
 emp:aq Tryz.prog aA 60 [g.typ.pv] (.bool (dA g.typ))
 wrd:g.typ.words.length≤9000000000000∧∀ x∈g.typ.words,x.length≤140737488351232
theorem Jo {t:Typ}(h:mj t=0)(ht:t.ok)(hf:fP t=true):∀ g∈t.fields,FldOk g:=fun g hg=>by
 have hw:=Gl h ht hf g hg
 have hty:=Dl h
 obtain⟨h9,_,hs⟩:=oO hf
 obtain⟨k,m,M,s,w,e,f⟩:=t
 rw[Typ.ok_mk] at ht
 have ho:=Dj (hty.2.2 (.inl h9) g hg).1
 have hgt:=(fB (ht.2.2.2.2.2.2.2.2.2 g hg)).1
 obtain⟨n',nm',nd',⟨k',m',M',s',w',e',f'⟩,d'⟩:=g
 simp only[TFd.typ] at hw ho hgt ⊢
 rw[Typ.ok_mk] at hgt
 have hwl:w'.length≤9000000000000:=by omega
 exact⟨hw,Gw k' m' M' s' w' e' f' hwl,hwl,hgt.2.2.2.2.2.1⟩
set_option maxHeartbeats 8000000 in
theorem At (t:Typ)(ht:t.ok)(w:List Int)(he:flE t=0)(hlen:w.length=t.fields.length):aq Tryz.prog aA 34 [t.pv,.list (gL w)] (.int .i64 (Av t.fields w 0)):=by
 have h34:=DK t ht
 obtain⟨h0,hfl⟩:=Gp he
 have hfo:=Jo h0 ht hfl
 rw[he] at h34
 clear he h0 hfl
 obtain⟨k,m,M,s,wd,e,f⟩:=t
 rw[Typ.ok_mk] at ht
 have hf:f.length≤9000000000000:=by omega
 clear ht
 simp only[Typ.pv_mk,Typ.fields] at h34 hfo hlen ⊢
 obtain⟨R,hR⟩:∃ R,R=Av f w 0:=⟨_,rfl⟩
 rw[← hR]
 have hwl:=bO w
 have hlI:(w.length:Int)=(f.length:Int):=by omega
 refine aq.intro pi (by simp[F34]) ?_
 simp(maxSteps:=9^7) (disch:=try exact dI) only[F34,Typ.pv_mk,hwl,hlI,Int.lt_irrefl,push_cast,seval]
 refine ab.pure h34 rfl ?_
 simp(maxSteps:=9^7) (disch:=try exact dI) only[hwl,hlI,Int.lt_irrefl,push_cast,seval]
 refine aB ([]) (fun x:Nat×Int=>[(6,.pv (.int .i64 x.2)),(31,.pv (.int .i64 (x.1:Int)))]) (fun _=>[]) (fun x=>x.1≤f.length∧R=Av (f.drop x.1) (w.drop x.1) x.2∧0≤x.2∧x.2≤4096*(x.1:Int)) (fun x=>f.length - x.1) ((0,0)) ?_;intro e0 σ0 n0 h0;simp(maxSteps:=9^7) (disch:=try exact dI) only[push_cast,seval] at h0;obtain⟨rfl,rfl,rfl⟩:=h0;refine⟨?_,?_,?_⟩
 ·simp(maxSteps:=9^7) (disch:=try exact dI) only[push_cast,seval]
 ·exact⟨by simp,by simpa using hR,by simp,by simp⟩
 rintro⟨i,S⟩ ⟨hi,hr,hS,hS2⟩
 simp only at hi hr hS hS2
 by_cases hlt:i<f.length
 ·have hltI:(i:Int)<(f.length:Int):=by omega
  obtain⟨g,hg⟩:∃ g,f[i]? = some g:=⟨_,List.getElem?_eq_getElem hlt⟩
  obtain⟨n,hn⟩:∃ n,w[i]? = some n:=⟨_,List.getElem?_eq_getElem (by omega)⟩
  have hnp:=jy hn
  rw[ua hg hn] at hr
  obtain⟨hw,hem,hwdl,hwd⟩:=hfo g (List.mem_of_getElem? hg)
  have hcn:=rT g.typ.words hwd hwdl
  obtain⟨z,hz⟩:∃ z,z=pO g n:=⟨_,rfl⟩
  rw[← hz] at hr
  simp only[pO] at hz
  generalize pr g.typ=W at *
  generalize dA g.typ=E at *
  generalize g.typ.words.any vC=B at *
  obtain⟨nd,hnd⟩:∃ q,q=g.need:=⟨_,rfl⟩
  rw[← hnd] at hz
  obtain⟨n',nm',nd',⟨k',m',M',s',w',e',f'⟩,d'⟩:=g
  simp only[TFd.typ,TFd.need,Typ.words] at hw hem hcn hnd
  subst hnd
  simp only[Typ.pv_mk] at hw hem
  by_cases c1:n<1∨4096<n
  ·rw[if_pos c1] at hz
   subst hz
   rw[if_neg (by decide)] at hr
   subst hr
   rcases c1 with c1 | c1
   ·simp(maxSteps:=9^7) (disch:=try exact dI) only[hg,Option.map_some,TFd.pv_mk,Typ.pv_mk,ae,hnp,c1,push_cast,seval]
   ·have c2:¬ n<1:=by omega
    simp(maxSteps:=9^7) (disch:=try exact dI) only[hg,Option.map_some,TFd.pv_mk,Typ.pv_mk,ae,hnp,c1,c2,push_cast,seval]
  have c1a:¬ n<1:=fun h=>c1 (.inl h)
  have c1b:¬ 4096<n:=fun h=>c1 (.inr h)
  rw[if_neg c1] at hz
  by_cases c2:n<W
  ·rw[if_pos c2] at hz
   subst hz
   rw[if_neg (by decide)] at hr
   subst hr
   simp(maxSteps:=9^7) (disch:=try exact dI) only[hg,Option.map_some,TFd.pv_mk,Typ.pv_mk,ae,hnp,c1a,c1b,push_cast,seval]
   refine am hw rfl ?_
   simp(maxSteps:=9^7) (disch:=try exact dI) only[c2,push_cast,seval]
  rw[if_neg c2] at hz
  by_cases c3:nd=2
  ·subst c3
   cases E with
   | true=>
     rw[if_pos ⟨rfl,rfl⟩] at hz
     subst hz
     rw[if_neg (by decide)] at hr
     subst hr
     simp(maxSteps:=9^7) (disch:=try exact dI) only[hg,Option.map_some,TFd.pv_mk,Typ.pv_mk,ae,hnp,c1a,c1b,push_cast,seval]
     refine am hw rfl ?_
     simp(maxSteps:=9^7) (disch:=try exact dI) only[c2,push_cast,seval]
     refine ab.pure hem rfl ?_
     simp(maxSteps:=9^7) (disch:=try exact dI) only[push_cast,seval]
   | false=>
     rw[if_neg (fun h=>absurd h.2 (by decide))] at hz
     cases B with
     | true=>
       rw[if_pos rfl] at hz
       subst hz
       rw[if_neg (by decide)] at hr
       subst hr
       simp(maxSteps:=9^7) (disch:=try exact dI) only[hg,Option.map_some,TFd.pv_mk,Typ.pv_mk,ae,hnp,c1a,c1b,push_cast,seval]
       refine am hw rfl ?_
       simp(maxSteps:=9^7) (disch:=try exact dI) only[c2,push_cast,seval]
       refine ab.pure hem rfl ?_
       simp(maxSteps:=9^7) (disch:=try exact dI) only[push_cast,seval]
       refine ab.pure hcn rfl ?_
       simp(maxSteps:=9^7) (disch:=try exact dI) only[push_cast,seval]
     | false=>
       rw[if_neg (show ¬ false=true by decide)] at hz
       subst hz
       rw[if_pos rfl] at hr
       simp(maxSteps:=9^7) (disch:=try exact dI) only[hg,Option.map_some,TFd.pv_mk,Typ.pv_mk,ae,hnp,c1a,c1b,push_cast,seval]
       refine am hw rfl ?_
       simp(maxSteps:=9^7) (disch:=try exact dI) only[c2,push_cast,seval]
       refine ab.pure hem rfl ?_
       simp(maxSteps:=9^7) (disch:=try exact dI) only[push_cast,seval]
       refine ab.pure hcn rfl ?_
       simp(maxSteps:=9^7) (disch:=try exact dI) only[hnp,push_cast,seval]
       exact⟨(i+1,S+n),bQ qsZ,⟨by simp only;omega,hr,by simp only;omega,by simp only;omega⟩,by simp only;omega⟩
  ·rw[if_neg (fun h=>c3 h.1)] at hz
   cases B with
   | true=>
     rw[if_pos rfl] at hz
     subst hz
     rw[if_neg (by decide)] at hr
     subst hr
     simp(maxSteps:=9^7) (disch:=try exact dI) only[hg,Option.map_some,TFd.pv_mk,Typ.pv_mk,ae,hnp,c1a,c1b,push_cast,seval]
     refine am hw rfl ?_
     simp(maxSteps:=9^7) (disch:=try exact dI) only[c2,c3,push_cast,seval]
     refine ab.pure hcn rfl ?_
     simp(maxSteps:=9^7) (disch:=try exact dI) only[push_cast,seval]
   | false=>
     rw[if_neg (show ¬ false=true by decide)] at hz
     subst hz
     rw[if_pos rfl] at hr
     simp(maxSteps:=9^7) (disch:=try exact dI) only[hg,Option.map_some,TFd.pv_mk,Typ.pv_mk,ae,hnp,c1a,c1b,push_cast,seval]
     refine am hw rfl ?_
     simp(maxSteps:=9^7) (disch:=try exact dI) only[c2,c3,push_cast,seval]
     refine ab.pure hcn rfl ?_
     simp(maxSteps:=9^7) (disch:=try exact dI) only[hnp,push_cast,seval]
     exact⟨(i+1,S+n),bQ qsZ,⟨by simp only;omega,hr,by simp only;omega,by simp only;omega⟩,by simp only;omega⟩
 ·obtain rfl:i=f.length:=by omega
  rw[List.drop_length,Av] at hr
  subst hr
  by_cases h9:65536<S
  ·rw[if_pos h9]
   simp(maxSteps:=9^7) (disch:=try exact dI) only[Int.lt_irrefl,h9,push_cast,seval]
  ·rw[if_neg h9]
   simp(maxSteps:=9^7) (disch:=try exact dI) only[Int.lt_irrefl,h9,push_cast,seval]
theorem Dw (t:Typ)(ht:t.ok)(w:List Int):aq Tryz.prog aA 34 [t.pv,.list (gL w)] (.int .i64 (IM t w)):=by
 have h34:=DK t ht
 unfold IM
 by_cases he:flE t=0
 ·rw[if_pos he]
  by_cases h1:w.length<t.fields.length
  ·rw[if_pos h1]
   rw[he] at h34
   have hwl:=bO w
   have h1I:(w.length:Int)<(t.fields.length:Int):=by omega
   obtain⟨k,m,M,s,wd,e,f⟩:=t
   simp only[Typ.pv_mk,Typ.fields] at h34 h1I ⊢
   refine aq.intro pi (by simp[F34]) ?_
   simp(maxSteps:=9^7) (disch:=try exact dI) only[F34,Typ.pv_mk,hwl,h1I,push_cast,seval]
   refine ab.pure h34 rfl ?_
   simp(maxSteps:=9^7) (disch:=try exact dI) only[hwl,h1I,push_cast,seval]
  rw[if_neg h1]
  by_cases h2:t.fields.length<w.length
  ·rw[if_pos h2]
   rw[he] at h34
   have hwl:=bO w
   have h1I:¬ (w.length:Int)<(t.fields.length:Int):=by omega
   have h2I:(t.fields.length:Int)<(w.length:Int):=by omega
   obtain⟨k,m,M,s,wd,e,f⟩:=t
   simp only[Typ.pv_mk,Typ.fields] at h34 h1I h2I ⊢
   refine aq.intro pi (by simp[F34]) ?_
   simp(maxSteps:=9^7) (disch:=try exact dI) only[F34,Typ.pv_mk,hwl,h1I,h2I,push_cast,seval]
   refine ab.pure h34 rfl ?_
   simp(maxSteps:=9^7) (disch:=try exact dI) only[hwl,h1I,h2I,push_cast,seval]
  rw[if_neg h2]
  exact At t ht w he (by omega)
 ·rw[if_neg he]
  generalize flE t=z at *
  obtain⟨k,m,M,s,wd,e,f⟩:=t
  simp only[Typ.pv_mk] at h34 ⊢
  refine aq.intro pi (by simp[F34]) ?_
  simp(maxSteps:=9^7) (disch:=try exact dI) only[F34,Typ.pv_mk,push_cast,seval]
  refine ab.pure h34 rfl ?_
  simp(maxSteps:=9^7) (disch:=try exact dI) only[he,push_cast,seval]
end Go.Proofs.YtfepkhlgopjaoaaGreatDoor
namespace Go.Proofs.YtfepkhlgopjaoaaGreatDoor
open Go Go.Ab
attribute [local irreducible] vc
theorem BW (s:List UInt8)(c:Int):aq Tryz.prog aA 102 [.str s,.int .u8 c] (.int .i64 (ru c.toNat.toUInt8 s 0)):=by
 generalize hq:ru c.toNat.toUInt8 s 0=q
 refine aq.intro HO (by simp[Nh]) ?_
 simp(disch:=try exact dI) only[Nh,jU,km,hq,push_cast,seval]
theorem F9 (s:List UInt8)(c:Int):aq Tryz.prog aA 57 [.str s,.int .u8 c] (.int .i64 (ru c.toNat.toUInt8 s 0)):=by
 have h22:=BW s c
 generalize ru c.toNat.toUInt8 s 0=q at *
 refine aq.intro KO (by simp[F57]) ?_
 simp(disch:=try exact dI) only[F57,push_cast,seval]
 refine ab.pure h22 rfl ?_
 simp(disch:=try exact dI) only[push_cast,seval]
def Ij:List UInt8:=[9,44,59,124,58,94,126,35]
def fj (n:Int):Bool:=decide (0≤n)&&(decide (n<128)&&decide (0≤ru n.toNat.toUInt8 Ij 0))
theorem nv (n:Int):aq Tryz.prog aA 30 [.int .i64 n] (.bool (fj n)):=by
 have h73:=F9 Ij n
 refine aq.intro KX (by simp[F30]) ?_
 by_cases h0:0≤n
 ·by_cases h1:n<128
  ·have e:fj n=decide (0≤ru n.toNat.toUInt8 Ij 0):=by unfold fj;simp[h0,h1]
   rw[e]
   generalize ru n.toNat.toUInt8 Ij 0=q at *
   have hw:=sZ h0 (by omega:n≤255)
   unfold Ij at h73
   by_cases hq:0≤q
   ·rw[show decide (0≤q)=true by simpa using hq]
    simp(disch:=try exact dI) only[F30,hw,push_cast,seval]
    refine ab.pure h73 rfl ?_
    simp(disch:=try exact dI) only[push_cast,seval]
   ·rw[show decide (0≤q)=false by simpa using hq]
    simp(disch:=try exact dI) only[F30,hw,push_cast,seval]
    refine ab.pure h73 rfl ?_
    simp(disch:=try exact dI) only[push_cast,seval]
  ·have e:fj n=false:=by unfold fj;simp[h1]
   rw[e]
   simp(disch:=try exact dI) only[F30,push_cast,seval]
 ·have e:fj n=false:=by unfold fj;simp[h0]
  rw[e]
  simp(disch:=try exact dI) only[F30,push_cast,seval]
end Go.Proofs.YtfepkhlgopjaoaaGreatDoor
