/- A part of the proof for FixedwidthRepresentableCardSaid. -/
import Derived.Test.YtbojpfpliibfbaaGreatDoorReR16
import Derived.Test.YtbojpfpliibfbaaGreatDoorReF
import Derived.Test.YtbojpfpliibfbaaGreatDoorReCore6
set_option maxRecDepth 100000
set_option linter.unusedVariables false
set_option linter.unusedSimpArgs false
-- many steps
namespace Go.Proofs.YtbojpfpliibfbaaGreatDoor
open Go Go.Ab
attribute [local irreducible] vc
def db (w:List Int):List PV:=w.map (PV.int .i64)
theorem aV (l:List Int):(db l).length=l.length:=by simp[db]
theorem gU {l:List Int}{i:Nat}{x:Int}(h:l[i]? = some x):(db l)[i]? = some (.int .i64 x):=by simp[db,h]
def F7 (x:Int):Bool:=decide (x<1)||decide (4096<x)
theorem MD (x:Int):ag Tryz.prog aD 103 [.int .i64 x] (.bool (F7 x)):=by
 unfold F7
 refine ag.intro HA (by simp[Lw]) ?_
 by_cases h1:x<1
 ·rw[decide_eq_true h1,Bool.true_or]
  simp(maxSteps:=9^7) (disch:=try exact dI) only[Lw,h1,push_cast,seval]
 ·rw[decide_eq_false h1,Bool.false_or]
  simp(maxSteps:=9^7) (disch:=try exact dI) only[Lw,h1,push_cast,seval]
theorem BC (l:List Int)(g:Nat)(q:Int→Bool)(hq:∀ x∈l,ag Tryz.prog aD g [.int .i64 x] (.bool (q x)))(hl:l.length≤1000000000) :
  ag Tryz.prog aD 155 [.list (db l),.clo g [] []] (.int .i64 (dy q l 0)):=by
 refine ag.intro Hl (by simp[Nc]) ?_
 simp(maxSteps:=9^7) (disch:=try exact dI) only[Nc,aV,push_cast,seval]
 refine aw ([]) (fun m:Nat=>[(8,.pv (.int .i64 (m:Int)))]) (fun m=>[]) (fun m=>m≤l.length∧dy q l 0=dy q (l.drop m) m) (fun m=>l.length - m) (0) ?_;intro e0 σ0 n0 h0;simp(maxSteps:=9^7) (disch:=try exact dI) only[push_cast,seval] at h0;obtain⟨rfl,rfl,rfl⟩:=h0;refine⟨?_,?_,?_⟩
 ·simp(maxSteps:=9^7) (disch:=try exact dI) only[push_cast,seval]
 ·exact⟨by omega,by simp⟩
 ·rintro m ⟨hm,he⟩
  by_cases hlt:m<l.length
  ·have hltI:(m:Int)<l.length:=by omega
   obtain⟨x,hx⟩:∃ x,l[m]? = some x:=⟨_,List.getElem?_eq_getElem hlt⟩
   have hcall:=hq x (List.mem_of_getElem? hx)
   have hx':=gU hx
   simp(maxSteps:=9^7) (disch:=try exact dI) only[hx',push_cast,seval]
   refine ab.pure hcall rfl ?_
   cases hqx:q x with
   | true=>
     rw[he,dn hx hqx]
     simp(maxSteps:=9^7) (disch:=try exact dI) only[push_cast,seval]
   | false=>
     rw[cl hx hqx] at he
     simp(maxSteps:=9^7) (disch:=try exact dI) only[push_cast,seval]
     exact⟨m+1,aT qsZ,⟨by omega,he⟩,by omega⟩
  ·have hltI:¬ (m:Int)<l.length:=by omega
   rw[he,dp hlt]
   simp(maxSteps:=9^7) (disch:=try exact dI) only[push_cast,seval]
theorem r4 (l:List Int)(g:Nat)(q:Int→Bool)(hq:∀ x∈l,ag Tryz.prog aD g [.int .i64 x] (.bool (q x)))(hl:l.length≤1000000000) :
  ag Tryz.prog aD 102 [.list (db l),.clo g [] []] (.bool (l.any q)):=by
 have h94:=BC l g q hq hl
 have hfa:=dS (p:=q) l
 refine ag.intro HB (by simp[Lx]) ?_
 rcases bB (p:=q) l 0 with ⟨h1,h2⟩ | ⟨k,x,h1,h2,h3⟩
 ·rw[h2] at h94
  rw[h1] at hfa
  rw[← hfa]
  simp(maxSteps:=9^7) (disch:=try exact dI) only[Lx,push_cast,seval]
  refine ab.pure h94 rfl ?_
  simp(maxSteps:=9^7) (disch:=try exact dI) only[push_cast,seval]
  rfl
 ·rw[h3] at h94
  rw[h2] at hfa
  rw[← hfa]
  have hk:(0:Int)≤((0+k:Nat):Int):=by omega
  generalize ((0+k:Nat):Int)=z at *
  simp(maxSteps:=9^7) (disch:=try exact dI) only[Lx,push_cast,seval]
  refine ab.pure h94 rfl ?_
  simp(maxSteps:=9^7) (disch:=try exact dI) only[push_cast,seval]
  rfl
def Ln (w:List Int):Bool:=decide (64<w.length)||w.any F7
def tG (w:List Int):Int:=w.sum
theorem y8:tG []=0:=rfl
theorem tE {w:List Int}{i:Nat}{x:Int}(h:w[i]? = some x):tG (w.take (i+1))=tG (w.take i)+x:=by
 unfold tG;rw[aI h,List.sum_append];simp
theorem xQ {w:List Int}(h:w.any F7=false){x:Int}(hx:x∈w):1≤x∧x≤4096:=by
 have:=List.any_eq_false.1 h x hx
 simp only[F7,Bool.or_eq_true,decide_eq_true_eq,not_or] at this
 omega
theorem tF:∀ (w:List Int),(∀ x∈w,1≤x∧x≤4096)→0≤tG w∧tG w≤4096*w.length
 | [],_=>by simp[tG]
 | x::r,h=>by
   have h1:=h x (List.mem_cons_self ..)
   have h2:=tF r fun y hy=>h y (List.mem_cons_of_mem _ hy)
   simp only[tG,List.sum_cons,List.length_cons] at *
   omega
theorem DS (w:List Int)(hl:w.length≤1000000):ag Tryz.prog aD 50 [.list (db w)] (.tup [.int .i64 (if Ln w=true then 0 else tG w),.int .i64 (if Ln w=true then 2 else 0)]):=by
 have h78:=r4 w 103 F7 (fun x _=>MD x) (by omega)
 unfold Ln
 by_cases h64:64<w.length
 ·have h64I:(64:Int)<(w.length:Int):=by omega
  rw[if_pos (by simp[h64]),if_pos (by simp[h64])]
  refine ag.intro x8 (by simp[F50]) ?_
  simp(maxSteps:=9^7) (disch:=try exact dI) only[F50,aV,h64I,push_cast,seval]
 have h64I:¬ (64:Int)<(w.length:Int):=by omega
 rw[decide_eq_false h64,Bool.false_or]
 cases hb:w.any F7 with
 | true=>
   rw[hb] at h78
   rw[if_pos rfl,if_pos rfl]
   refine ag.intro x8 (by simp[F50]) ?_
   simp(maxSteps:=9^7) (disch:=try exact dI) only[F50,aV,h64I,push_cast,seval]
   refine ab.pure h78 rfl ?_
   simp(maxSteps:=9^7) (disch:=try exact dI) only[push_cast,seval]
 | false=>
   rw[hb] at h78
   rw[if_neg (by decide),if_neg (by decide)]
   have hr:=fun x hx=>xQ hb (x:=x) hx
   refine ag.intro x8 (by simp[F50]) ?_
   simp(maxSteps:=9^7) (disch:=try exact dI) only[F50,aV,h64I,push_cast,seval]
   refine ab.pure h78 rfl ?_
   simp(maxSteps:=9^7) (disch:=try exact dI) only[aV,push_cast,seval]
   refine aw ([]) (fun i:Nat=>[(4,.pv (.int .i64 (tG (w.take i)))),(16,.pv (.int .i64 (i:Int)))]) (fun _=>[]) (fun i=>i≤w.length) (fun i=>w.length - i) (0) ?_;intro e0 σ0 n0 h0;simp(maxSteps:=9^7) (disch:=try exact dI) only[push_cast,seval] at h0;obtain⟨rfl,rfl,rfl⟩:=h0;refine⟨?_,?_,?_⟩
   ·simp(maxSteps:=9^7) (disch:=try exact dI) only[List.take_zero,y8,push_cast,seval]
   ·omega
   rintro i hi
   have hsm:=tF (w.take i) fun x hx=>hr x (List.mem_of_mem_take hx)
   rw[List.length_take] at hsm
   by_cases hlt:i<w.length
   ·have hltI:(i:Int)<(w.length:Int):=by omega
    obtain⟨x,hx⟩:∃ x,w[i]? = some x:=⟨_,List.getElem?_eq_getElem hlt⟩
    have hst:=tE hx
    have hxr:=hr x (List.mem_of_getElem? hx)
    have hx':=gU hx
    simp(maxSteps:=9^7) (disch:=try exact dI) only[hx',push_cast,seval]
    exact⟨i+1,aT (by simp(maxSteps:=9^7) (disch:=try exact dI) only[hst,push_cast,seval]),by omega,by omega⟩
   ·obtain rfl:i=w.length:=by omega
    rw[List.take_length]
    simp(maxSteps:=9^7) (disch:=try exact dI) only[Int.lt_irrefl,push_cast,seval]
def FC (n:Nat)(s:Int):Int:=if (n:Int)<s then 4 else if s<(n:Int) then 5 else 0
theorem I8 (line:List UInt8)(s:Int):ag Tryz.prog aD 51 [.str line,.int .i64 s] (.int .i64 (FC line.length s)):=by
 unfold FC
 refine ag.intro Kq (by simp[F51]) ?_
 by_cases h1:(line.length:Int)<s
 ·rw[if_pos h1]
  simp(maxSteps:=9^7) (disch:=try exact dI) only[F51,h1,push_cast,seval]
 ·rw[if_neg h1]
  by_cases h2:s<(line.length:Int)
  ·rw[if_pos h2]
   simp(maxSteps:=9^7) (disch:=try exact dI) only[F51,h1,h2,push_cast,seval]
  ·rw[if_neg h2]
   simp(maxSteps:=9^7) (disch:=try exact dI) only[F51,h1,h2,push_cast,seval]
theorem FY (line:List UInt8)(w:List PV):ag Tryz.prog aD 52 [.str line,.list w] (.clo 104 [] [.eptr [.list w] 0 0,.eptr [.str line] 0 0]):=by
 refine ag.intro Kp (by simp[F52]) ?_
 simp(maxSteps:=9^7) (disch:=try exact dI) only[F52,push_cast,seval]
end Go.Proofs.YtbojpfpliibfbaaGreatDoor
-- many steps
namespace Go.Proofs.YtbojpfpliibfbaaGreatDoor
open Go Go.Ab
attribute [local irreducible] vc
def ll (g:TFd)(n:Int):Int:=if n<1∨4096<n then 2 else if n<gw g.typ then 5 else if g.need=2∧ca g.typ=true then 19 else if g.typ.words.any jj=true then 6 else 0
def qE:List TFd→List Int→Int→Int
 | g::f,n::w,s=>if ll g n=0 then qE f w (s+n) else ll g n
 | [],_,s=>if 65536<s then 9 else 0
 | _,[],s=>if 65536<s then 9 else 0
theorem lz {f:List TFd}{w:List Int}{i:Nat}{g:TFd}{n:Int}(hg:f[i]? = some g)(hn:w[i]? = some n)(s:Int):qE (f.drop i) (w.drop i) s=if ll g n=0 then qE (f.drop (i+1)) (w.drop (i+1)) (s+n) else ll g n:=by
 have h1:=(List.getElem?_eq_some_iff.1 hg)
 have h2:=(List.getElem?_eq_some_iff.1 hn)
 obtain⟨hi,he⟩:=h1
 obtain⟨hj,hf⟩:=h2
 rw[List.drop_eq_getElem_cons hi,List.drop_eq_getElem_cons hj,he,hf,qE]
noncomputable def Iz (t:Typ)(w:List Int):Int:=if flE t=0 then (if w.length<t.fields.length then 4 else if t.fields.length<w.length then 5 else qE t.fields w 0) else flE t
structure FldOk (g:TFd):Prop where
 wid:ag Tryz.prog aD 35 [g.typ.pv] (.int .i64 (gw g.typ))∧ag Tryz.prog aD 30 [g.typ.pv] (.int .i64 (gw g.typ))
 emp:ag Tryz.prog aD 36 [g.typ.pv] (.bool (ca g.typ))∧ag Tryz.prog aD 40 [g.typ.pv] (.bool (ca g.typ))
 wrd:g.typ.words.length≤9000000000000∧∀ x∈g.typ.words,x.length≤140737488351232
theorem De {t:Typ}(h:oA t=0)(ht:t.ok)(hf:e5 t=true):∀ g∈t.fields,FldOk g:=fun g hg=>by
 have hw:=Fz h ht hf g hg
 have hty:=CN h
 obtain⟨h9,_,hs⟩:=pm hf
 obtain⟨k,m,M,s,w,e,f⟩:=t
 rw[Typ.ok_mk] at ht
 have ho:=CK (hty.2.2 (.inl h9) g hg).1
 have hgt:=(df (ht.2.2.2.2.2.2.2.2.2 g hg)).1
 obtain⟨n',nm',nd',⟨k',m',M',s',w',e',f'⟩,d'⟩:=g
 simp only[TFd.typ] at hw ho hgt ⊢
 rw[Typ.ok_mk] at hgt
 have hwl:w'.length≤9000000000000:=by omega
 exact⟨hw,⟨FL k' m' M' s' w' e' f' hwl,HC k' m' M' s' w' e' f' hwl ho⟩,hwl,hgt.2.2.2.2.2.1⟩
set_option maxHeartbeats 8000000 in
theorem zD (t:Typ)(ht:t.ok)(w:List Int)(he:flE t=0)(hlen:w.length=t.fields.length):ag Tryz.prog aD 12 [t.pv,.list (db w)] (.int .i64 (qE t.fields w 0)):=by
 have h34:=Df t ht
 obtain⟨h0,hfl⟩:=kJ he
 have hfo:=De h0 ht hfl
 rw[he] at h34
 clear he h0 hfl
 obtain⟨k,m,M,s,wd,e,f⟩:=t
 rw[Typ.ok_mk] at ht
 have hf:f.length≤9000000000000:=by omega
 clear ht
 simp only[Typ.pv_mk,Typ.fields] at h34 hfo hlen ⊢
 obtain⟨R,hR⟩:∃ R,R=qE f w 0:=⟨_,rfl⟩
 rw[← hR]
 have hwl:=aV w
 have hlI:(w.length:Int)=(f.length:Int):=by omega
 refine ag.intro pW (by simp[F12]) ?_
 simp(maxSteps:=9^7) (disch:=try exact dI) only[F12,Typ.pv_mk,hwl,hlI,Int.lt_irrefl,push_cast,seval]
 refine ab.pure h34 rfl ?_
 simp(maxSteps:=9^7) (disch:=try exact dI) only[hwl,hlI,Int.lt_irrefl,push_cast,seval]
 refine aw ([]) (fun x:Nat×Int=>[(6,.pv (.int .i64 x.2)),(31,.pv (.int .i64 (x.1:Int)))]) (fun _=>[]) (fun x=>x.1≤f.length∧R=qE (f.drop x.1) (w.drop x.1) x.2∧0≤x.2∧x.2≤4096*(x.1:Int)) (fun x=>f.length - x.1) ((0,0)) ?_;intro e0 σ0 n0 h0;simp(maxSteps:=9^7) (disch:=try exact dI) only[push_cast,seval] at h0;obtain⟨rfl,rfl,rfl⟩:=h0;refine⟨?_,?_,?_⟩
 ·simp(maxSteps:=9^7) (disch:=try exact dI) only[push_cast,seval]
 ·exact⟨by simp,by simpa using hR,by simp,by simp⟩
 rintro⟨i,S⟩ ⟨hi,hr,hS,hS2⟩
 simp only at hi hr hS hS2
 by_cases hlt:i<f.length
 ·have hltI:(i:Int)<(f.length:Int):=by omega
  obtain⟨g,hg⟩:∃ g,f[i]? = some g:=⟨_,List.getElem?_eq_getElem hlt⟩
  obtain⟨n,hn⟩:∃ n,w[i]? = some n:=⟨_,List.getElem?_eq_getElem (by omega)⟩
  have hnp:=gU hn
  rw[lz hg hn] at hr
  obtain⟨⟨hw,_⟩,⟨hem,_⟩,hwdl,hwd⟩:=hfo g (List.mem_of_getElem? hg)
  have hcn:=r6 g.typ.words hwd hwdl
  obtain⟨z,hz⟩:∃ z,z=ll g n:=⟨_,rfl⟩
  rw[← hz] at hr
  simp only[ll] at hz
  generalize gw g.typ=W at *
  generalize ca g.typ=E at *
  generalize g.typ.words.any jj=B at *
  obtain⟨nd,hnd⟩:∃ q,q=g.need:=⟨_,rfl⟩
  rw[← hnd] at hz
  obtain⟨n',nm',nd',⟨k',m',M',s',w',e',f'⟩,d'⟩:=g
  simp only[TFd.typ,TFd.need,Typ.words] at hw hem hcn hnd
  subst hnd
  simp only[Typ.pv_mk] at hw hem
  by_cases c1:n<1∨4096<n
  ·rw[if_pos c1] at hz
   subst hz
   rw[if_neg (by decide)] at hr
   subst hr
   rcases c1 with c1 | c1
   ·simp(maxSteps:=9^7) (disch:=try exact dI) only[hg,Option.map_some,TFd.pv_mk,Typ.pv_mk,ae,hnp,c1,push_cast,seval]
   ·have c2:¬ n<1:=by omega
    simp(maxSteps:=9^7) (disch:=try exact dI) only[hg,Option.map_some,TFd.pv_mk,Typ.pv_mk,ae,hnp,c1,c2,push_cast,seval]
  have c1a:¬ n<1:=fun h=>c1 (.inl h)
  have c1b:¬ 4096<n:=fun h=>c1 (.inr h)
  rw[if_neg c1] at hz
  by_cases c2:n<W
  ·rw[if_pos c2] at hz
   subst hz
   rw[if_neg (by decide)] at hr
   subst hr
   simp(maxSteps:=9^7) (disch:=try exact dI) only[hg,Option.map_some,TFd.pv_mk,Typ.pv_mk,ae,hnp,c1a,c1b,push_cast,seval]
   refine aA hw rfl ?_
   simp(maxSteps:=9^7) (disch:=try exact dI) only[c2,push_cast,seval]
  rw[if_neg c2] at hz
  by_cases c3:nd=2
  ·subst c3
   cases E with
   | true=>
     rw[if_pos ⟨rfl,rfl⟩] at hz
     subst hz
     rw[if_neg (by decide)] at hr
     subst hr
     simp(maxSteps:=9^7) (disch:=try exact dI) only[hg,Option.map_some,TFd.pv_mk,Typ.pv_mk,ae,hnp,c1a,c1b,push_cast,seval]
     refine aA hw rfl ?_
     simp(maxSteps:=9^7) (disch:=try exact dI) only[c2,push_cast,seval]
     refine ab.pure hem rfl ?_
     simp(maxSteps:=9^7) (disch:=try exact dI) only[push_cast,seval]
   | false=>
     rw[if_neg (fun h=>absurd h.2 (by decide))] at hz
     cases B with
     | true=>
       rw[if_pos rfl] at hz
       subst hz
       rw[if_neg (by decide)] at hr
       subst hr
       simp(maxSteps:=9^7) (disch:=try exact dI) only[hg,Option.map_some,TFd.pv_mk,Typ.pv_mk,ae,hnp,c1a,c1b,push_cast,seval]
       refine aA hw rfl ?_
       simp(maxSteps:=9^7) (disch:=try exact dI) only[c2,push_cast,seval]
       refine ab.pure hem rfl ?_
       simp(maxSteps:=9^7) (disch:=try exact dI) only[push_cast,seval]
       refine ab.pure hcn rfl ?_
       simp(maxSteps:=9^7) (disch:=try exact dI) only[push_cast,seval]
     | false=>
       rw[if_neg (show ¬ false=true by decide)] at hz
       subst hz
       rw[if_pos rfl] at hr
       simp(maxSteps:=9^7) (disch:=try exact dI) only[hg,Option.map_some,TFd.pv_mk,Typ.pv_mk,ae,hnp,c1a,c1b,push_cast,seval]
       refine aA hw rfl ?_
       simp(maxSteps:=9^7) (disch:=try exact dI) only[c2,push_cast,seval]
       refine ab.pure hem rfl ?_
       simp(maxSteps:=9^7) (disch:=try exact dI) only[push_cast,seval]
       refine ab.pure hcn rfl ?_
       simp(maxSteps:=9^7) (disch:=try exact dI) only[hnp,push_cast,seval]
       exact⟨(i+1,S+n),aT qsZ,⟨by simp only;omega,hr,by simp only;omega,by simp only;omega⟩,by simp only;omega⟩
  ·rw[if_neg (fun h=>c3 h.1)] at hz
   cases B with
   | true=>
     rw[if_pos rfl] at hz
     subst hz
     rw[if_neg (by decide)] at hr
     subst hr
     simp(maxSteps:=9^7) (disch:=try exact dI) only[hg,Option.map_some,TFd.pv_mk,Typ.pv_mk,ae,hnp,c1a,c1b,push_cast,seval]
     refine aA hw rfl ?_
     simp(maxSteps:=9^7) (disch:=try exact dI) only[c2,c3,push_cast,seval]
     refine ab.pure hcn rfl ?_
     simp(maxSteps:=9^7) (disch:=try exact dI) only[push_cast,seval]
   | false=>
     rw[if_neg (show ¬ false=true by decide)] at hz
     subst hz
     rw[if_pos rfl] at hr
     simp(maxSteps:=9^7) (disch:=try exact dI) only[hg,Option.map_some,TFd.pv_mk,Typ.pv_mk,ae,hnp,c1a,c1b,push_cast,seval]
     refine aA hw rfl ?_
     simp(maxSteps:=9^7) (disch:=try exact dI) only[c2,c3,push_cast,seval]
     refine ab.pure hcn rfl ?_
     simp(maxSteps:=9^7) (disch:=try exact dI) only[hnp,push_cast,seval]
     exact⟨(i+1,S+n),aT qsZ,⟨by simp only;omega,hr,by simp only;omega,by simp only;omega⟩,by simp only;omega⟩
 ·obtain rfl:i=f.length:=by omega
  rw[List.drop_length,qE] at hr
  subst hr
  by_cases h9:65536<S
  ·rw[if_pos h9]
   simp(maxSteps:=9^7) (disch:=try exact dI) only[Int.lt_irrefl,h9,push_cast,seval]
  ·rw[if_neg h9]
   simp(maxSteps:=9^7) (disch:=try exact dI) only[Int.lt_irrefl,h9,push_cast,seval]
theorem Iy (t:Typ)(ht:t.ok)(w:List Int):ag Tryz.prog aD 12 [t.pv,.list (db w)] (.int .i64 (Iz t w)):=by
 have h34:=Df t ht
 unfold Iz
 by_cases he:flE t=0
 ·rw[if_pos he]
  by_cases h1:w.length<t.fields.length
  ·rw[if_pos h1]
   rw[he] at h34
   have hwl:=aV w
   have h1I:(w.length:Int)<(t.fields.length:Int):=by omega
   obtain⟨k,m,M,s,wd,e,f⟩:=t
   simp only[Typ.pv_mk,Typ.fields] at h34 h1I ⊢
   refine ag.intro pW (by simp[F12]) ?_
   simp(maxSteps:=9^7) (disch:=try exact dI) only[F12,Typ.pv_mk,hwl,h1I,push_cast,seval]
   refine ab.pure h34 rfl ?_
   simp(maxSteps:=9^7) (disch:=try exact dI) only[hwl,h1I,push_cast,seval]
  rw[if_neg h1]
  by_cases h2:t.fields.length<w.length
  ·rw[if_pos h2]
   rw[he] at h34
   have hwl:=aV w
   have h1I:¬ (w.length:Int)<(t.fields.length:Int):=by omega
   have h2I:(t.fields.length:Int)<(w.length:Int):=by omega
   obtain⟨k,m,M,s,wd,e,f⟩:=t
   simp only[Typ.pv_mk,Typ.fields] at h34 h1I h2I ⊢
   refine ag.intro pW (by simp[F12]) ?_
   simp(maxSteps:=9^7) (disch:=try exact dI) only[F12,Typ.pv_mk,hwl,h1I,h2I,push_cast,seval]
   refine ab.pure h34 rfl ?_
   simp(maxSteps:=9^7) (disch:=try exact dI) only[hwl,h1I,h2I,push_cast,seval]
  rw[if_neg h2]
  exact zD t ht w he (by omega)
 ·rw[if_neg he]
  generalize flE t=z at *
  obtain⟨k,m,M,s,wd,e,f⟩:=t
  simp only[Typ.pv_mk] at h34 ⊢
  refine ag.intro pW (by simp[F12]) ?_
  simp(maxSteps:=9^7) (disch:=try exact dI) only[F12,Typ.pv_mk,push_cast,seval]
  refine ab.pure h34 rfl ?_
  simp(maxSteps:=9^7) (disch:=try exact dI) only[he,push_cast,seval]
end Go.Proofs.YtbojpfpliibfbaaGreatDoor
