/- A part of the proof. -/
import Derived.Test.YtbojpfpliibfbaaGreatDoorEnR12
set_option maxHeartbeats 16000000
set_option maxRecDepth 100000
set_option linter.unusedVariables false
set_option linter.unusedSimpArgs false
-- many steps
namespace Go.Proofs.YtbojpfpliibfbaaGreatDoor
open Go Go.Ab
attribute [local irreducible] vc
def cn (w:List Int):List PV:=w.map (PV.int .i64)
theorem a8 (l:List Int):(cn l).length=l.length:=by simp[cn]
theorem eE {l:List Int}{i:Nat}{x:Int}(h:l[i]? = some x):(cn l)[i]? = some (.int .i64 x):=by simp[cn,h]
def JD (x:Int):Bool:=decide (x<1)||decide (4096<x)
theorem OZ (x:Int):am Tryz.prog az 103 [.int .i64 x] (.bool (JD x)):=by
 unfold JD
 refine am.intro NE.2 (by simp[NE]) ?_
 by_cases h1:x<1
 ·rw[decide_eq_true h1,Bool.true_or]
  simp(disch:=try exact dI) only[NE,h1,push_cast,seval]
 ·rw[decide_eq_false h1,Bool.false_or]
  simp(disch:=try exact dI) only[NE,h1,push_cast,seval]
theorem EG (l:List Int)(g:Nat)(q:Int->Bool)(hq:∀ x∈l,am Tryz.prog az g [.int .i64 x] (.bool (q x)))(hl:l.length<=1000000000) :
  am Tryz.prog az 155 [.list (cn l),.clo g [] []] (.int .i64 (d7 q l 0)):=by
 refine am.intro Px.2 (by simp[Px]) ?_
 simp(disch:=try exact dI) only[Px,a8,push_cast,seval]
 refine au ([]) (fun m:Nat=>[(8,.pv (.int .i64 (m:Int)))]) (fun m=>[]) (fun m=>m<=l.length/\d7 q l 0=d7 q (l.drop m) m) (fun m=>l.length - m) (0) ?_;intro e0 σ0 n0 h0;simp(disch:=try exact dI) only[push_cast,seval] at h0;obtain⟨rfl,rfl,rfl⟩:=h0;refine⟨?_,?_,?_⟩
 ·exact qsZ
 ·exact⟨by omega,by simp⟩
 ·rintro m ⟨hm,he⟩
  by_cases hlt:m<l.length
  ·have hltI:(m:Int)<l.length:=by omega
   obtain⟨x,hx⟩:∃ x,l[m]? = some x:=⟨_,List.getElem?_eq_getElem hlt⟩
   have hcall:=hq x (List.mem_of_getElem? hx)
   have hx':=eE hx
   simp(disch:=try exact dI) only[hx',push_cast,seval]
   refine ab.pure hcall rfl ?_
   cases hqx:q x with
   | true=>
     rw[he,dX hx hqx]
     exact qsZ
   | false=>
     rw[cQ hx hqx] at he
     refine zgZ ?_
     exact⟨m+1,aM qsZ,⟨by omega,he⟩,by omega⟩
  ·have hltI:¬ (m:Int)<l.length:=by omega
   rw[he,dY hlt]
   exact qsZ
theorem vz (l:List Int)(g:Nat)(q:Int->Bool)(hq:∀ x∈l,am Tryz.prog az g [.int .i64 x] (.bool (q x)))(hl:l.length<=1000000000) :
  am Tryz.prog az 102 [.list (cn l),.clo g [] []] (.bool (l.any q)):=by
 have h94:=EG l g q hq hl
 have hfa:=eI (p:=q) l
 refine am.intro NF.2 (by simp[NF]) ?_
 rcases bx (p:=q) l 0 with ⟨h1,h2⟩ | ⟨k,x,h1,h2,h3⟩
 ·rw[h2] at h94
  rw[h1] at hfa
  rw[<- hfa]
  simp(disch:=try exact dI) only[NF,push_cast,seval]
  refine ab.pure h94 rfl ?_
  refine zgZ ?_
  rfl
 ·rw[h3] at h94
  rw[h2] at hfa
  rw[<- hfa]
  have hk:(0:Int)<=((0+k:Nat):Int):=by omega
  generalize ((0+k:Nat):Int)=z at *
  simp(disch:=try exact dI) only[NF,push_cast,seval]
  refine ab.pure h94 rfl ?_
  refine zgZ ?_
  rfl
def Np (w:List Int):Bool:=decide (64<w.length)||w.any JD
def ib (w:List Int):Int:=w.sum
theorem rn:ib []=0:=rfl
theorem xm {w:List Int}{i:Nat}{x:Int}(h:w[i]? = some x):ib (w.take (i+1))=ib (w.take i)+x:=by
 unfold ib;rw[aK h,List.sum_append];simp
theorem BO {w:List Int}(h:w.any JD=false){x:Int}(hx:x∈w):1<=x/\x<=4096:=by
 have:=List.any_eq_false.1 h x hx
 simp only[JD,Bool.or_eq_true,decide_eq_true_eq,not_or] at this
 omega
theorem xo:∀ (w:List Int),(∀ x∈w,1<=x/\x<=4096)->0<=ib w/\ib w<=4096*w.length
 | [],_=>by simp[ib]
 | x::r,h=>by
   have h1:=h x (List.mem_cons_self ..)
   have h2:=xo r fun y hy=>h y (List.mem_cons_of_mem _ hy)
   simp only[ib,List.sum_cons,List.length_cons] at *
   omega
theorem Hf (w:List Int)(hl:w.length<=1000000):am Tryz.prog az 50 [.list (cn w)] (.tup [.int .i64 (if Np w=true then 0 else ib w),.int .i64 (if Np w=true then 2 else 0)]):=by
 have h78:=vz w 103 JD (fun x _=>OZ x) (by omega)
 unfold Np
 by_cases h64:64<w.length
 ·have h64I:(64:Int)<(w.length:Int):=by omega
  rw[if_pos (by simp[h64]),if_pos (by simp[h64])]
  refine am.intro Q50.2 (by simp[Q50]) ?_
  simp(disch:=try exact dI) only[Q50,a8,h64I,push_cast,seval]
 have h64I:¬ (64:Int)<(w.length:Int):=by omega
 rw[decide_eq_false h64,Bool.false_or]
 cases hb:w.any JD with
 | true=>
   rw[hb] at h78
   rw[if_pos rfl,if_pos rfl]
   refine am.intro Q50.2 (by simp[Q50]) ?_
   simp(disch:=try exact dI) only[Q50,a8,h64I,push_cast,seval]
   refine ab.pure h78 rfl ?_
   exact qsZ
 | false=>
   rw[hb] at h78
   rw[if_neg (by decide),if_neg (by decide)]
   have hr:=fun x hx=>BO hb (x:=x) hx
   refine am.intro Q50.2 (by simp[Q50]) ?_
   simp(disch:=try exact dI) only[Q50,a8,h64I,push_cast,seval]
   refine ab.pure h78 rfl ?_
   simp(disch:=try exact dI) only[a8,push_cast,seval]
   refine au ([]) (fun i:Nat=>[(4,.pv (.int .i64 (ib (w.take i)))),(16,.pv (.int .i64 (i:Int)))]) (fun _=>[]) (fun i=>i<=w.length) (fun i=>w.length - i) (0) ?_;intro e0 σ0 n0 h0;simp(disch:=try exact dI) only[push_cast,seval] at h0;obtain⟨rfl,rfl,rfl⟩:=h0;refine⟨?_,?_,?_⟩
   ·simp(disch:=try exact dI) only[List.take_zero,rn,push_cast,seval]
   ·omega
   rintro i hi
   have hsm:=xo (w.take i) fun x hx=>hr x (List.mem_of_mem_take hx)
   rw[List.length_take] at hsm
   by_cases hlt:i<w.length
   ·have hltI:(i:Int)<(w.length:Int):=by omega
    obtain⟨x,hx⟩:∃ x,w[i]? = some x:=⟨_,List.getElem?_eq_getElem hlt⟩
    have hst:=xm hx
    have hxr:=hr x (List.mem_of_getElem? hx)
    have hx':=eE hx
    simp(disch:=try exact dI) only[hx',push_cast,seval]
    exact⟨i+1,aM (by simp(disch:=try exact dI) only[hst,push_cast,seval]),by omega,by omega⟩
   ·obtain rfl:i=w.length:=by omega
    rw[List.take_length]
    simp(disch:=try exact dI) only[Int.lt_irrefl,push_cast,seval]
def I5 (n:Nat)(s:Int):Int:=if (n:Int)<s then 4 else if s<(n:Int) then 5 else 0
theorem LT (line:List UInt8)(s:Int):am Tryz.prog az 51 [.str line,.int .i64 s] (.int .i64 (I5 line.length s)):=by
 unfold I5
 refine am.intro Q51.2 (by simp[Q51]) ?_
 by_cases h1:(line.length:Int)<s
 ·rw[if_pos h1]
  simp(disch:=try exact dI) only[Q51,h1,push_cast,seval]
 ·rw[if_neg h1]
  by_cases h2:s<(line.length:Int)
  ·rw[if_pos h2]
   simp(disch:=try exact dI) only[Q51,h1,h2,push_cast,seval]
  ·rw[if_neg h2]
   simp(disch:=try exact dI) only[Q51,h1,h2,push_cast,seval]
theorem Jv (line:List UInt8)(w:List PV):am Tryz.prog az 52 [.str line,.list w] (.clo 104 [] [.eptr [.list w] 0 0,.eptr [.str line] 0 0]):=by
 refine am.intro Q52.2 (by simp[Q52]) ?_
 simp(disch:=try exact dI) only[Q52,push_cast,seval]
end Go.Proofs.YtbojpfpliibfbaaGreatDoor
-- many steps
namespace Go.Proofs.YtbojpfpliibfbaaGreatDoor
open Go Go.Ab
attribute [local irreducible] vc
def ii (g:TFd)(n:Int):Int:=if n<1\/4096<n then 2 else if n<eW g.typ then 5 else if g.need=2/\cD g.typ=true then 19 else if g.typ.words.any kT=true then 6 else 0
def oX:List TFd->List Int->Int->Int
 | g::f,n::w,s=>if ii g n=0 then oX f w (s+n) else ii g n
 | [],_,s=>if 65536<s then 9 else 0
 | _,[],s=>if 65536<s then 9 else 0
theorem nK {f:List TFd}{w:List Int}{i:Nat}{g:TFd}{n:Int}(hg:f[i]? = some g)(hn:w[i]? = some n)(s:Int):oX (f.drop i) (w.drop i) s=if ii g n=0 then oX (f.drop (i+1)) (w.drop (i+1)) (s+n) else ii g n:=by
 have h1:=(List.getElem?_eq_some_iff.1 hg)
 have h2:=(List.getElem?_eq_some_iff.1 hn)
 obtain⟨hi,he⟩:=h1
 obtain⟨hj,hf⟩:=h2
 rw[List.drop_eq_getElem_cons hi,List.drop_eq_getElem_cons hj,he,hf,oX]
noncomputable def nk (t:Typ)(w:List Int):Int:=if flE t=0 then (if w.length<t.fields.length then 4 else if t.fields.length<w.length then 5 else oX t.fields w 0) else flE t
structure FldOk (g:TFd):Prop where
 wid:am Tryz.prog az 35 [g.typ.pv] (.int .i64 (eW g.typ))/\am Tryz.prog az 30 [g.typ.pv] (.int .i64 (eW g.typ))
 emp:am Tryz.prog az 36 [g.typ.pv] (.bool (cD g.typ))/\am Tryz.prog az 40 [g.typ.pv] (.bool (cD g.typ))
 wrd:g.typ.words.length<=9000000000000/\∀ x∈g.typ.words,x.length<=140737488351232
theorem Gv {t:Typ}(h:ni t=0)(ht:t.ok)(hf:eF t=true):∀ g∈t.fields,FldOk g:=fun g hg=>by
 have hw:=I1 h ht hf g hg
 have hty:=ln h
 obtain⟨h9,_,hs⟩:=dP hf
 obtain⟨k,m,M,s,w,e,f⟩:=t
 rw[Typ.ok_mk] at ht
 have ho:=lh (hty.2.2 (.inl h9) g hg).1
 have hgt:=(dt (ht.2.2.2.2.2.2.2.2.2 g hg)).1
 obtain⟨n',nm',nd',⟨k',m',M',s',w',e',f'⟩,d'⟩:=g
 simp only[TFd.typ] at hw ho hgt ⊢
 rw[Typ.ok_mk] at hgt
 have hwl:w'.length<=9000000000000:=by omega
 exact⟨hw,⟨Jg k' m' M' s' w' e' f' hwl,Kb k' m' M' s' w' e' f' hwl ho⟩,hwl,hgt.2.2.2.2.2.1⟩
theorem CX (t:Typ)(ht:t.ok)(w:List Int)(he:flE t=0)(hlen:w.length=t.fields.length):am Tryz.prog az 12 [t.pv,.list (cn w)] (.int .i64 (oX t.fields w 0)):=by
 have h34:=Gw t ht
 obtain⟨h0,hfl⟩:=eG he
 have hfo:=Gv h0 ht hfl
 rw[he] at h34
 clear he h0 hfl
 obtain⟨k,m,M,s,wd,e,f⟩:=t
 rw[Typ.ok_mk] at ht
 have hf:f.length<=9000000000000:=by omega
 clear ht
 simp only[Typ.pv_mk,Typ.fields] at h34 hfo hlen ⊢
 obtain⟨R,hR⟩:∃ R,R=oX f w 0:=⟨_,rfl⟩
 rw[<- hR]
 have hwl:=a8 w
 have hlI:(w.length:Int)=(f.length:Int):=by omega
 refine am.intro Q12.2 (by simp[Q12]) ?_
 simp(disch:=try exact dI) only[Q12,Typ.pv_mk,hwl,hlI,Int.lt_irrefl,push_cast,seval]
 refine ab.pure h34 rfl ?_
 simp(disch:=try exact dI) only[hwl,hlI,Int.lt_irrefl,push_cast,seval]
 refine au ([]) (fun x:Nat×Int=>[(6,.pv (.int .i64 x.2)),(31,.pv (.int .i64 (x.1:Int)))]) (fun _=>[]) (fun x=>x.1<=f.length/\R=oX (f.drop x.1) (w.drop x.1) x.2/\0<=x.2/\x.2<=4096*(x.1:Int)) (fun x=>f.length - x.1) ((0,0)) ?_;intro e0 σ0 n0 h0;simp(disch:=try exact dI) only[push_cast,seval] at h0;obtain⟨rfl,rfl,rfl⟩:=h0;refine⟨?_,?_,?_⟩
 ·exact qsZ
 ·exact⟨by simp,by simpa using hR,by simp,by simp⟩
 rintro⟨i,S⟩ ⟨hi,hr,hS,hS2⟩
 simp only at hi hr hS hS2
 by_cases hlt:i<f.length
 ·have hltI:(i:Int)<(f.length:Int):=by omega
  obtain⟨g,hg⟩:∃ g,f[i]? = some g:=⟨_,List.getElem?_eq_getElem hlt⟩
  obtain⟨n,hn⟩:∃ n,w[i]? = some n:=⟨_,List.getElem?_eq_getElem (by omega)⟩
  have hnp:=eE hn
  rw[nK hg hn] at hr
  obtain⟨⟨hw,_⟩,⟨hem,_⟩,hwdl,hwd⟩:=hfo g (List.mem_of_getElem? hg)
  have hcn:=vB g.typ.words hwd hwdl
  obtain⟨z,hz⟩:∃ z,z=ii g n:=⟨_,rfl⟩
  rw[<- hz] at hr
  simp only[ii] at hz
  generalize eW g.typ=W at *
  generalize cD g.typ=E at *
  generalize g.typ.words.any kT=B at *
  obtain⟨nd,hnd⟩:∃ q,q=g.need:=⟨_,rfl⟩
  rw[<- hnd] at hz
  obtain⟨n',nm',nd',⟨k',m',M',s',w',e',f'⟩,d'⟩:=g
  simp only[TFd.typ,TFd.need,Typ.words] at hw hem hcn hnd
  subst hnd
  simp only[Typ.pv_mk] at hw hem
  by_cases c1:n<1\/4096<n
  ·rw[if_pos c1] at hz
   subst hz
   rw[if_neg (by decide)] at hr
   subst hr
   rcases c1 with c1 | c1
   ·simp(disch:=try exact dI) only[hg,Option.map_some,TFd.pv_mk,Typ.pv_mk,ag,hnp,c1,push_cast,seval]
   ·have c2:¬ n<1:=by omega
    simp(disch:=try exact dI) only[hg,Option.map_some,TFd.pv_mk,Typ.pv_mk,ag,hnp,c1,c2,push_cast,seval]
  have c1a:¬ n<1:=fun h=>c1 (.inl h)
  have c1b:¬ 4096<n:=fun h=>c1 (.inr h)
  rw[if_neg c1] at hz
  by_cases c2:n<W
  ·rw[if_pos c2] at hz
   subst hz
   rw[if_neg (by decide)] at hr
   subst hr
   simp(disch:=try exact dI) only[hg,Option.map_some,TFd.pv_mk,Typ.pv_mk,ag,hnp,c1a,c1b,push_cast,seval]
   refine ap hw rfl ?_
   simp(disch:=try exact dI) only[c2,push_cast,seval]
  rw[if_neg c2] at hz
  by_cases c3:nd=2
  ·subst c3
   cases E with
   | true=>
     rw[if_pos ⟨rfl,rfl⟩] at hz
     subst hz
     rw[if_neg (by decide)] at hr
     subst hr
     simp(disch:=try exact dI) only[hg,Option.map_some,TFd.pv_mk,Typ.pv_mk,ag,hnp,c1a,c1b,push_cast,seval]
     refine ap hw rfl ?_
     simp(disch:=try exact dI) only[c2,push_cast,seval]
     refine ab.pure hem rfl ?_
     exact qsZ
   | false=>
     rw[if_neg (fun h=>absurd h.2 (by decide))] at hz
     cases B with
     | true=>
       rw[if_pos rfl] at hz
       subst hz
       rw[if_neg (by decide)] at hr
       subst hr
       simp(disch:=try exact dI) only[hg,Option.map_some,TFd.pv_mk,Typ.pv_mk,ag,hnp,c1a,c1b,push_cast,seval]
       refine ap hw rfl ?_
       simp(disch:=try exact dI) only[c2,push_cast,seval]
       refine ab.pure hem rfl ?_
       refine zgZ ?_
       refine ab.pure hcn rfl ?_
       exact qsZ
     | false=>
       rw[if_neg (show ¬ false=true by decide)] at hz
       subst hz
       rw[if_pos rfl] at hr
       simp(disch:=try exact dI) only[hg,Option.map_some,TFd.pv_mk,Typ.pv_mk,ag,hnp,c1a,c1b,push_cast,seval]
       refine ap hw rfl ?_
       simp(disch:=try exact dI) only[c2,push_cast,seval]
       refine ab.pure hem rfl ?_
       refine zgZ ?_
       refine ab.pure hcn rfl ?_
       simp(disch:=try exact dI) only[hnp,push_cast,seval]
       exact⟨(i+1,S+n),aM qsZ,⟨by simp only;omega,hr,by simp only;omega,by simp only;omega⟩,by simp only;omega⟩
  ·rw[if_neg (fun h=>c3 h.1)] at hz
   cases B with
   | true=>
     rw[if_pos rfl] at hz
     subst hz
     rw[if_neg (by decide)] at hr
     subst hr
     simp(disch:=try exact dI) only[hg,Option.map_some,TFd.pv_mk,Typ.pv_mk,ag,hnp,c1a,c1b,push_cast,seval]
     refine ap hw rfl ?_
     simp(disch:=try exact dI) only[c2,c3,push_cast,seval]
     refine ab.pure hcn rfl ?_
     exact qsZ
   | false=>
     rw[if_neg (show ¬ false=true by decide)] at hz
     subst hz
     rw[if_pos rfl] at hr
     simp(disch:=try exact dI) only[hg,Option.map_some,TFd.pv_mk,Typ.pv_mk,ag,hnp,c1a,c1b,push_cast,seval]
     refine ap hw rfl ?_
     simp(disch:=try exact dI) only[c2,c3,push_cast,seval]
     refine ab.pure hcn rfl ?_
     simp(disch:=try exact dI) only[hnp,push_cast,seval]
     exact⟨(i+1,S+n),aM qsZ,⟨by simp only;omega,hr,by simp only;omega,by simp only;omega⟩,by simp only;omega⟩
 ·obtain rfl:i=f.length:=by omega
  rw[List.drop_length,oX] at hr
  subst hr
  by_cases h9:65536<S
  ·rw[if_pos h9]
   simp(disch:=try exact dI) only[Int.lt_irrefl,h9,push_cast,seval]
  ·rw[if_neg h9]
   simp(disch:=try exact dI) only[Int.lt_irrefl,h9,push_cast,seval]
theorem xN (t:Typ)(ht:t.ok)(w:List Int):am Tryz.prog az 12 [t.pv,.list (cn w)] (.int .i64 (nk t w)):=by
 have h34:=Gw t ht
 unfold nk
 by_cases he:flE t=0
 ·rw[if_pos he]
  by_cases h1:w.length<t.fields.length
  ·rw[if_pos h1]
   rw[he] at h34
   have hwl:=a8 w
   have h1I:(w.length:Int)<(t.fields.length:Int):=by omega
   obtain⟨k,m,M,s,wd,e,f⟩:=t
   simp only[Typ.pv_mk,Typ.fields] at h34 h1I ⊢
   refine am.intro Q12.2 (by simp[Q12]) ?_
   simp(disch:=try exact dI) only[Q12,Typ.pv_mk,hwl,h1I,push_cast,seval]
   refine ab.pure h34 rfl ?_
   simp(disch:=try exact dI) only[hwl,h1I,push_cast,seval]
  rw[if_neg h1]
  by_cases h2:t.fields.length<w.length
  ·rw[if_pos h2]
   rw[he] at h34
   have hwl:=a8 w
   have h1I:¬ (w.length:Int)<(t.fields.length:Int):=by omega
   have h2I:(t.fields.length:Int)<(w.length:Int):=by omega
   obtain⟨k,m,M,s,wd,e,f⟩:=t
   simp only[Typ.pv_mk,Typ.fields] at h34 h1I h2I ⊢
   refine am.intro Q12.2 (by simp[Q12]) ?_
   simp(disch:=try exact dI) only[Q12,Typ.pv_mk,hwl,h1I,h2I,push_cast,seval]
   refine ab.pure h34 rfl ?_
   simp(disch:=try exact dI) only[hwl,h1I,h2I,push_cast,seval]
  rw[if_neg h2]
  exact CX t ht w he (by omega)
 ·rw[if_neg he]
  generalize flE t=z at *
  obtain⟨k,m,M,s,wd,e,f⟩:=t
  simp only[Typ.pv_mk] at h34 ⊢
  refine am.intro Q12.2 (by simp[Q12]) ?_
  simp(disch:=try exact dI) only[Q12,Typ.pv_mk,push_cast,seval]
  refine ab.pure h34 rfl ?_
  simp(disch:=try exact dI) only[he,push_cast,seval]
end Go.Proofs.YtbojpfpliibfbaaGreatDoor
