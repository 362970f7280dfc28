/- A part of the proof for CodecUsualCardSaid. -/
import Derived.Test.YtfepkhlgopjaoaaGreatDoorUsKJ1
import Derived.Test.YtfepkhlgopjaoaaGreatDoorUsF
import Derived.Test.YtfepkhlgopjaoaaGreatDoorUsKD2
import Derived.Test.YtfepkhlgopjaoaaGreatDoorUsCore6
import Derived.Test.YtfepkhlgopjaoaaGreatDoorUsKR6
set_option linter.unusedVariables false
set_option linter.unusedSimpArgs false
set_option maxRecDepth 100000
-- many steps
namespace Go.Proofs.YtfepkhlgopjaoaaGreatDoor
open Go Go.Ab
attribute [local irreducible] vc
def qm (g:TFd)(n:Int):Int:=if n<1∨4096<n then 2 else if n<j8 g.typ then 5 else if g.need=2∧dD g.typ=true then 19 else if g.typ.words.any vZ=true then 6 else 0
def AS:List TFd→List Int→Int→Int
 | g::f,n::w,s=>if qm g n=0 then AS f w (s+n) else qm g n
 | [],_,s=>if 65536<s then 9 else 0
 | _,[],s=>if 65536<s then 9 else 0
theorem uE {f:List TFd}{w:List Int}{i:Nat}{g:TFd}{n:Int}(hg:f[i]? = some g)(hn:w[i]? = some n)(s:Int):AS (f.drop i) (w.drop i) s=if qm g n=0 then AS (f.drop (i+1)) (w.drop (i+1)) (s+n) else qm g n:=by
 have h1:=(List.getElem?_eq_some_iff.1 hg)
 have h2:=(List.getElem?_eq_some_iff.1 hn)
 obtain⟨hi,he⟩:=h1
 obtain⟨hj,hf⟩:=h2
 rw[List.drop_eq_getElem_cons hi,List.drop_eq_getElem_cons hj,he,hf,AS]
noncomputable def Jl (t:Typ)(w:List Int):Int:=if flE t=0 then (if w.length<t.fields.length then 4 else if t.fields.length<w.length then 5 else AS t.fields w 0) else flE t
structure FldOk (g:TFd):Prop where
 wid:ap Tryz.prog az 54 [g.typ.pv] (.int .i64 (j8 g.typ))
 emp:ap Tryz.prog az 60 [g.typ.pv] (.bool (dD g.typ))
 wrd:g.typ.words.length≤9000000000000∧∀ x∈g.typ.words,x.length≤140737488351232
theorem JY {t:Typ}(h:mE t=0)(ht:t.ok)(hf:fV t=true):∀ g∈t.fields,FldOk g:=fun g hg=>by
 have hw:=xz h ht hf g hg
 have hty:=un h
 obtain⟨h9,_,hs⟩:=pb hf
 obtain⟨k,m,M,s,w,e,f⟩:=t
 rw[Typ.ok_mk] at ht
 have ho:=tO (hty.2.2 (.inl h9) g hg).1
 have hgt:=(fH (ht.2.2.2.2.2.2.2.2.2 g hg)).1
 obtain⟨n',nm',nd',⟨k',m',M',s',w',e',f'⟩,d'⟩:=g
 simp only[TFd.typ] at hw ho hgt ⊢
 rw[Typ.ok_mk] at hgt
 have hwl:w'.length≤9000000000000:=by omega
 exact⟨hw,G2 k' m' M' s' w' e' f' hwl,hwl,hgt.2.2.2.2.2.1⟩
set_option maxHeartbeats 8000000 in
theorem AQ (t:Typ)(ht:t.ok)(w:List Int)(he:flE t=0)(hlen:w.length=t.fields.length):ap Tryz.prog az 34 [t.pv,.list (dy w)] (.int .i64 (AS t.fields w 0)):=by
 have h34:=pd t ht
 obtain⟨h0,hfl⟩:=nP he
 have hfo:=JY h0 ht hfl
 rw[he] at h34
 clear he h0 hfl
 obtain⟨k,m,M,s,wd,e,f⟩:=t
 rw[Typ.ok_mk] at ht
 have hf:f.length≤9000000000000:=by omega
 clear ht
 simp only[Typ.pv_mk,Typ.fields] at h34 hfo hlen ⊢
 obtain⟨R,hR⟩:∃ R,R=AS f w 0:=⟨_,rfl⟩
 rw[← hR]
 have hwl:=bR w
 have hlI:(w.length:Int)=(f.length:Int):=by omega
 refine ap.intro pG (by simp[F34]) ?_
 simp(maxSteps:=9^7) (disch:=try exact dI) only[F34,Typ.pv_mk,hwl,hlI,Int.lt_irrefl,push_cast,seval]
 refine ae.pure h34 rfl ?_
 simp(maxSteps:=9^7) (disch:=try exact dI) only[hwl,hlI,Int.lt_irrefl,push_cast,seval]
 refine aB ([]) (fun x:Nat×Int=>[(6,.pv (.int .i64 x.2)),(31,.pv (.int .i64 (x.1:Int)))]) (fun _=>[]) (fun x=>x.1≤f.length∧R=AS (f.drop x.1) (w.drop x.1) x.2∧0≤x.2∧x.2≤4096*(x.1:Int)) (fun x=>f.length - x.1) ((0,0)) ?_;intro e0 σ0 n0 h0;simp(maxSteps:=9^7) (disch:=try exact dI) only[push_cast,seval] at h0;obtain⟨rfl,rfl,rfl⟩:=h0;refine⟨?_,?_,?_⟩
 ·simp(maxSteps:=9^7) (disch:=try exact dI) only[push_cast,seval]
 ·exact⟨by simp,by simpa using hR,by simp,by simp⟩
 rintro⟨i,S⟩ ⟨hi,hr,hS,hS2⟩
 simp only at hi hr hS hS2
 by_cases hlt:i<f.length
 ·have hltI:(i:Int)<(f.length:Int):=by omega
  obtain⟨g,hg⟩:∃ g,f[i]? = some g:=⟨_,List.getElem?_eq_getElem hlt⟩
  obtain⟨n,hn⟩:∃ n,w[i]? = some n:=⟨_,List.getElem?_eq_getElem (by omega)⟩
  have hnp:=jH hn
  rw[uE hg hn] at hr
  obtain⟨hw,hem,hwdl,hwd⟩:=hfo g (List.mem_of_getElem? hg)
  have hcn:=sm g.typ.words hwd hwdl
  obtain⟨z,hz⟩:∃ z,z=qm g n:=⟨_,rfl⟩
  rw[← hz] at hr
  simp only[qm] at hz
  generalize j8 g.typ=W at *
  generalize dD g.typ=E at *
  generalize g.typ.words.any vZ=B at *
  obtain⟨nd,hnd⟩:∃ q,q=g.need:=⟨_,rfl⟩
  rw[← hnd] at hz
  obtain⟨n',nm',nd',⟨k',m',M',s',w',e',f'⟩,d'⟩:=g
  simp only[TFd.typ,TFd.need,Typ.words] at hw hem hcn hnd
  subst hnd
  simp only[Typ.pv_mk] at hw hem
  by_cases c1:n<1∨4096<n
  ·rw[if_pos c1] at hz
   subst hz
   rw[if_neg (by decide)] at hr
   subst hr
   rcases c1 with c1 | c1
   ·simp(maxSteps:=9^7) (disch:=try exact dI) only[hg,Option.map_some,TFd.pv_mk,Typ.pv_mk,ag,hnp,c1,push_cast,seval]
   ·have c2:¬ n<1:=by omega
    simp(maxSteps:=9^7) (disch:=try exact dI) only[hg,Option.map_some,TFd.pv_mk,Typ.pv_mk,ag,hnp,c1,c2,push_cast,seval]
  have c1a:¬ n<1:=fun h=>c1 (.inl h)
  have c1b:¬ 4096<n:=fun h=>c1 (.inr h)
  rw[if_neg c1] at hz
  by_cases c2:n<W
  ·rw[if_pos c2] at hz
   subst hz
   rw[if_neg (by decide)] at hr
   subst hr
   simp(maxSteps:=9^7) (disch:=try exact dI) only[hg,Option.map_some,TFd.pv_mk,Typ.pv_mk,ag,hnp,c1a,c1b,push_cast,seval]
   refine ab hw rfl ?_
   simp(maxSteps:=9^7) (disch:=try exact dI) only[c2,push_cast,seval]
  rw[if_neg c2] at hz
  by_cases c3:nd=2
  ·subst c3
   cases E with
   | true=>
     rw[if_pos ⟨rfl,rfl⟩] at hz
     subst hz
     rw[if_neg (by decide)] at hr
     subst hr
     simp(maxSteps:=9^7) (disch:=try exact dI) only[hg,Option.map_some,TFd.pv_mk,Typ.pv_mk,ag,hnp,c1a,c1b,push_cast,seval]
     refine ab hw rfl ?_
     simp(maxSteps:=9^7) (disch:=try exact dI) only[c2,push_cast,seval]
     refine ae.pure hem rfl ?_
     simp(maxSteps:=9^7) (disch:=try exact dI) only[push_cast,seval]
   | false=>
     rw[if_neg (fun h=>absurd h.2 (by decide))] at hz
     cases B with
     | true=>
       rw[if_pos rfl] at hz
       subst hz
       rw[if_neg (by decide)] at hr
       subst hr
       simp(maxSteps:=9^7) (disch:=try exact dI) only[hg,Option.map_some,TFd.pv_mk,Typ.pv_mk,ag,hnp,c1a,c1b,push_cast,seval]
       refine ab hw rfl ?_
       simp(maxSteps:=9^7) (disch:=try exact dI) only[c2,push_cast,seval]
       refine ae.pure hem rfl ?_
       simp(maxSteps:=9^7) (disch:=try exact dI) only[push_cast,seval]
       refine ae.pure hcn rfl ?_
       simp(maxSteps:=9^7) (disch:=try exact dI) only[push_cast,seval]
     | false=>
       rw[if_neg (show ¬ false=true by decide)] at hz
       subst hz
       rw[if_pos rfl] at hr
       simp(maxSteps:=9^7) (disch:=try exact dI) only[hg,Option.map_some,TFd.pv_mk,Typ.pv_mk,ag,hnp,c1a,c1b,push_cast,seval]
       refine ab hw rfl ?_
       simp(maxSteps:=9^7) (disch:=try exact dI) only[c2,push_cast,seval]
       refine ae.pure hem rfl ?_
       simp(maxSteps:=9^7) (disch:=try exact dI) only[push_cast,seval]
       refine ae.pure hcn rfl ?_
       simp(maxSteps:=9^7) (disch:=try exact dI) only[hnp,push_cast,seval]
       exact⟨(i+1,S+n),bH qsZ,⟨by simp only;omega,hr,by simp only;omega,by simp only;omega⟩,by simp only;omega⟩
  ·rw[if_neg (fun h=>c3 h.1)] at hz
   cases B with
   | true=>
     rw[if_pos rfl] at hz
     subst hz
     rw[if_neg (by decide)] at hr
     subst hr
     simp(maxSteps:=9^7) (disch:=try exact dI) only[hg,Option.map_some,TFd.pv_mk,Typ.pv_mk,ag,hnp,c1a,c1b,push_cast,seval]
     refine ab hw rfl ?_
     simp(maxSteps:=9^7) (disch:=try exact dI) only[c2,c3,push_cast,seval]
     refine ae.pure hcn rfl ?_
     simp(maxSteps:=9^7) (disch:=try exact dI) only[push_cast,seval]
   | false=>
     rw[if_neg (show ¬ false=true by decide)] at hz
     subst hz
     rw[if_pos rfl] at hr
     simp(maxSteps:=9^7) (disch:=try exact dI) only[hg,Option.map_some,TFd.pv_mk,Typ.pv_mk,ag,hnp,c1a,c1b,push_cast,seval]
     refine ab hw rfl ?_
     simp(maxSteps:=9^7) (disch:=try exact dI) only[c2,c3,push_cast,seval]
     refine ae.pure hcn rfl ?_
     simp(maxSteps:=9^7) (disch:=try exact dI) only[hnp,push_cast,seval]
     exact⟨(i+1,S+n),bH qsZ,⟨by simp only;omega,hr,by simp only;omega,by simp only;omega⟩,by simp only;omega⟩
 ·obtain rfl:i=f.length:=by omega
  rw[List.drop_length,AS] at hr
  subst hr
  by_cases h9:65536<S
  ·rw[if_pos h9]
   simp(maxSteps:=9^7) (disch:=try exact dI) only[Int.lt_irrefl,h9,push_cast,seval]
  ·rw[if_neg h9]
   simp(maxSteps:=9^7) (disch:=try exact dI) only[Int.lt_irrefl,h9,push_cast,seval]
theorem DU (t:Typ)(ht:t.ok)(w:List Int):ap Tryz.prog az 34 [t.pv,.list (dy w)] (.int .i64 (Jl t w)):=by
 have h34:=pd t ht
 unfold Jl
 by_cases he:flE t=0
 ·rw[if_pos he]
  by_cases h1:w.length<t.fields.length
  ·rw[if_pos h1]
   rw[he] at h34
   have hwl:=bR w
   have h1I:(w.length:Int)<(t.fields.length:Int):=by omega
   obtain⟨k,m,M,s,wd,e,f⟩:=t
   simp only[Typ.pv_mk,Typ.fields] at h34 h1I ⊢
   refine ap.intro pG (by simp[F34]) ?_
   simp(maxSteps:=9^7) (disch:=try exact dI) only[F34,Typ.pv_mk,hwl,h1I,push_cast,seval]
   refine ae.pure h34 rfl ?_
   simp(maxSteps:=9^7) (disch:=try exact dI) only[hwl,h1I,push_cast,seval]
  rw[if_neg h1]
  by_cases h2:t.fields.length<w.length
  ·rw[if_pos h2]
   rw[he] at h34
   have hwl:=bR w
   have h1I:¬ (w.length:Int)<(t.fields.length:Int):=by omega
   have h2I:(t.fields.length:Int)<(w.length:Int):=by omega
   obtain⟨k,m,M,s,wd,e,f⟩:=t
   simp only[Typ.pv_mk,Typ.fields] at h34 h1I h2I ⊢
   refine ap.intro pG (by simp[F34]) ?_
   simp(maxSteps:=9^7) (disch:=try exact dI) only[F34,Typ.pv_mk,hwl,h1I,h2I,push_cast,seval]
   refine ae.pure h34 rfl ?_
   simp(maxSteps:=9^7) (disch:=try exact dI) only[hwl,h1I,h2I,push_cast,seval]
  rw[if_neg h2]
  exact AQ t ht w he (by omega)
 ·rw[if_neg he]
  generalize flE t=z at *
  obtain⟨k,m,M,s,wd,e,f⟩:=t
  simp only[Typ.pv_mk] at h34 ⊢
  refine ap.intro pG (by simp[F34]) ?_
  simp(maxSteps:=9^7) (disch:=try exact dI) only[F34,Typ.pv_mk,push_cast,seval]
  refine ae.pure h34 rfl ?_
  simp(maxSteps:=9^7) (disch:=try exact dI) only[he,push_cast,seval]
end Go.Proofs.YtfepkhlgopjaoaaGreatDoor
namespace Go.Proofs.YtfepkhlgopjaoaaGreatDoor
open Go Go.Ab
attribute [local irreducible] vc
theorem Cj (s:List UInt8)(c:Int):ap Tryz.prog az 102 [.str s,.int .u8 c] (.int .i64 (rQ c.toNat.toUInt8 s 0)):=by
 generalize hq:rQ c.toNat.toUInt8 s 0=q
 refine ap.intro Il (by simp[NM]) ?_
 simp(disch:=try exact dI) only[NM,j4,kC,hq,push_cast,seval]
theorem GF (s:List UInt8)(c:Int):ap Tryz.prog az 57 [.str s,.int .u8 c] (.int .i64 (rQ c.toNat.toUInt8 s 0)):=by
 have h22:=Cj s c
 generalize rQ c.toNat.toUInt8 s 0=q at *
 refine ap.intro Lk (by simp[F57]) ?_
 simp(disch:=try exact dI) only[F57,push_cast,seval]
 refine ae.pure h22 rfl ?_
 simp(disch:=try exact dI) only[push_cast,seval]
def IS:List UInt8:=[9,44,59,124,58,94,126,35]
def fq (n:Int):Bool:=decide (0≤n)&&(decide (n<128)&&decide (0≤rQ n.toNat.toUInt8 IS 0))
theorem nK (n:Int):ap Tryz.prog az 30 [.int .i64 n] (.bool (fq n)):=by
 have h73:=GF IS n
 refine ap.intro Ls (by simp[F30]) ?_
 by_cases h0:0≤n
 ·by_cases h1:n<128
  ·have e:fq n=decide (0≤rQ n.toNat.toUInt8 IS 0):=by unfold fq;simp[h0,h1]
   rw[e]
   generalize rQ n.toNat.toUInt8 IS 0=q at *
   have hw:=tz h0 (by omega:n≤255)
   unfold IS at h73
   by_cases hq:0≤q
   ·rw[show decide (0≤q)=true by simpa using hq]
    simp(disch:=try exact dI) only[F30,hw,push_cast,seval]
    refine ae.pure h73 rfl ?_
    simp(disch:=try exact dI) only[push_cast,seval]
   ·rw[show decide (0≤q)=false by simpa using hq]
    simp(disch:=try exact dI) only[F30,hw,push_cast,seval]
    refine ae.pure h73 rfl ?_
    simp(disch:=try exact dI) only[push_cast,seval]
  ·have e:fq n=false:=by unfold fq;simp[h1]
   rw[e]
   simp(disch:=try exact dI) only[F30,push_cast,seval]
 ·have e:fq n=false:=by unfold fq;simp[h0]
  rw[e]
  simp(disch:=try exact dI) only[F30,push_cast,seval]
end Go.Proofs.YtfepkhlgopjaoaaGreatDoor
namespace Go.Proofs.YtfepkhlgopjaoaaGreatDoor
open Go Go.Ab
def t8:List PV→Option (List (List UInt8))
 | []=>some []
 | .str s::r=>match t8 r with
   | some l=>some (s::l)
   | none=>none
 | _=>none
theorem ov:∀ {l:List PV} {ss:List (List UInt8)},t8 l=some ss→l=ss.map .str
 | [],ss,h=>by simp only[t8,Option.some.injEq] at h;subst h;rfl
 | x::r,ss,h=>by
   unfold t8 at h
   split at h
   ·rename_i e;cases e
   ·rename_i s r' e
    cases e
    split at h
    ·rename_i l hl
     cases h
     rw[ov hl];rfl
    ·cases h
   ·cases h
def eqL (p:PV→PV→Bool):List PV→List PV→Bool
 | [],[]=>true
 | x::r,y::q=>p x y&&eqL p r q
 | _,_=>false
def eqP:Nat→PV→PV→Bool
 | n+1,.int k a,.int k' b=>decide (k=k')&&decide (a=b)
 | n+1,.str a,.str b=>decide (a=b)
 | n+1,.nils,.nils=>true
 | n+1,.agg a,.agg b=>eqL (eqP n) a b
 | n+1,.list a,.list b=>eqL (eqP n) a b
 | _,_,_=>false
theorem xM {p:PV→PV→Bool}(hp:∀ x y,p x y=true→x=y):∀ a b,eqL p a b=true→a=b
 | [],[],_=>rfl
 | x::r,y::q,h=>by
   simp only[eqL,Bool.and_eq_true] at h
   rw[hp x y h.1,xM hp r q h.2]
 | [],y::q,h=>by simp[eqL] at h
 | x::r,[],h=>by simp[eqL] at h
theorem xL:∀ n x y,eqP n x y=true→x=y
 | 0,x,y,h=>by simp[eqP] at h
 | n+1,x,y,h=>by
   unfold eqP at h
   split at h
   ·simp only[Bool.and_eq_true,decide_eq_true_eq] at h;rw[h.1,h.2]
   ·simp only[decide_eq_true_eq] at h;rw[h]
   ·rfl
   ·rw[xM (xL _) _ _ h]
   ·rw[xM (xL _) _ _ h]
   ·cases h
def v0:Val:=.mk 9 0 0 [] [] [.mk [97] (.mk 2 7 0 [] [] []),.mk [98] (.mk 4 0 0 [120] [] [])]
def v0P:PV:=.agg [.int .i64 9,.int .i64 0,.int .i64 0,.str [],.nils,.list [.agg [.str [97],.int .i64 2,.int .i64 7,.int .i64 0,.str [],.nils,.nils],.agg [.str [98],.int .i64 4,.int .i64 0,.int .i64 0,.str [120],.nils,.nils]]]
theorem C3:ap Tryz.prog az 74 [v0P] (.int .i64 0):=by
 have h:=jR 3 v0 (by simp[v0,g8,bx,Val.kind,Val.fields,Fld.value]) (by simp[v0,Val.ok_mk,Fld.ok_mk,I64])
 have e:lP 0 (dj 3 1 v0)=0:=by decide +kernel
 rw[e] at h
 refine h.nz ?_
 simp only[v0P,v0,Val.pv_mk,Fld.pv_mk,List.map_cons,List.map_nil]
 repeat' constructor
def orc (f:Nat)(ps:List PV):Option PV:=
 match f with
 | 136=>match ps with
   | [.int .i64 n]=>if -9223372036854775808≤n∧n≤9223372036854775807 then some (.str (jG n)) else none
   | _=>none
 | 98=>match ps with
   | [.str a,.str b]=>some (.int .i64 (Lib.compareBytes a b))
   | _=>none
 | 219=>match ps with
   | [.str a]=>some (.bool (Lib.validD a))
   | _=>none
 | 230=>match ps with
   | [.list l,.str s]=>match t8 l with
     | some ss=>if ss.length≤140737488355328∧(fS s ss).length≤140737488355328 then some (.str (fS s ss)) else none
     | none=>none
   | _=>none
 | 71=>match ps with
   | [.str a,.int .i64 n]=>if 0≤n∧n≤9223372036854775807∧a.length*n.toNat≤140737488355328 then some (.str (Lib.repeatL a n.toNat)) else none
   | _=>none
 | 74=>match ps with
   | [p]=>if eqP 6 p v0P=true then some (.int .i64 0) else none
   | _=>none
 | _=>none
theorem Jw:∀ f ps r,orc f ps=some r→ap Tryz.prog az f ps r:=by
 intro f ps r h
 unfold orc at h
 split at h
 ·split at h
  ·split at h
   ·rename_i hh;cases h;exact wT _ hh.1 hh.2
   ·cases h
  ·cases h
 ·split at h
  ·cases h;exact sr _ _
  ·cases h
 ·split at h
  ·cases h;exact dX _
  ·cases h
 ·split at h
  ·split at h
   ·rename_i e
    split at h
    ·rename_i hh;cases h
     rw[ov e]
     exact GA _ _ hh.1 hh.2
    ·cases h
   ·cases h
  ·cases h
 ·split at h
  ·split at h
   ·rename_i hh;cases h;exact kv _ _ hh.1 hh.2.1 hh.2.2
   ·cases h
  ·cases h
 ·split at h
  ·split at h
   ·rename_i hh;cases h;rw[xL _ _ _ hh];exact C3
   ·cases h
  ·cases h
 ·cases h
noncomputable def gFn (p:Nat×List Nat):TabRow:=⟨p.1,p.2,(cFn Tryz.prog p.2 p.1).getD ⟨0,[],.skip⟩⟩
def DQ:List (Nat×List Nat):=[(39,[]),(9,[]),(34,[]),(65,[]),(70,[]),(66,[]),(63,[]),(72,[14]),(73,[]),(86,[33]),(18,[]),(28,[]),(16,[]),(53,[]),(54,[]),(61,[]),(112,[]),(123,[]),(116,[]),(125,[]),(113,[]),(85,[]),(107,[]),(108,[]),(109,[]),(132,[19]),(31,[]),(154,[]),(155,[]),(19,[]),(156,[]),(157,[]),(13,[]),(36,[]),(20,[]),(41,[]),(59,[]),(106,[]),(172,[]),(194,[]),(195,[]),(196,[]),(200,[]),(201,[]),(197,[]),(198,[]),(182,[]),(183,[]),(58,[]),(270,[]),(259,[]),(260,[]),(11,[]),(21,[]),(33,[]),(42,[]),(77,[]),(78,[]),(103,[]),(104,[]),(294,[]),(180,[]),(295,[]),(150,[44]),(57,[]),(323,[]),(332,[]),(30,[]),(32,[]),(43,[]),(44,[]),(79,[]),(141,[]),(142,[]),(143,[]),(252,[]),(253,[12]),(102,[]),(146,[]),(147,[]),(231,[]),(232,[]),(234,[]),(318,[]),(319,[]),(236,[]),(237,[]),(309,[]),(348,[]),(310,[]),(354,[]),(385,[]),(418,[]),(46,[]),(83,[24]),(84,[]),(149,[]),(114,[]),(117,[14]),(251,[]),(317,[]),(421,[]),(423,[]),(40,[]),(75,[]),(76,[]),(138,[]),(140,[])]
theorem IJ {l:List (Nat×List Nat)}(h:(l.all fun p=>(cFn Tryz.prog p.2 p.1).isSome)=true):∀ r∈l.map gFn,cFn Tryz.prog r.muts r.f=some r.fn:=by
 intro r hr
 obtain⟨p,hp,rfl⟩:=List.mem_map.1 hr
 have h:=List.all_eq_true.1 h p hp
 simp only[gFn]
 cases h':cFn Tryz.prog p.2 p.1 with
 | some x=>rfl
 | none=>rw[h'] at h;cases h
theorem IM:(DQ.all fun p=>(cFn Tryz.prog p.2 p.1).isSome)=true:=by kernel_rfl
theorem N7:vL (exF (DQ.map gFn) orc az 5000 60) 9 []=some (.bool true):=by kernel_rfl
theorem wN:ap Tryz.prog az 9 [] (.bool true):=ap.of_ex (IJ IM) Jw N7
end Go.Proofs.YtfepkhlgopjaoaaGreatDoor
