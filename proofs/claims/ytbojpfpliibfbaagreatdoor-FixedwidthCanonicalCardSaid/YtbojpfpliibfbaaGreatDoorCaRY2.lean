/- A part of the proof. -/
import Derived.Test.YtbojpfpliibfbaaGreatDoorCaRX15
set_option maxRecDepth 100000
set_option linter.unusedVariables false
set_option linter.unusedSimpArgs false
namespace Go.Proofs.YtbojpfpliibfbaaGreatDoor
open Go Go.Ab
attribute [local irreducible] vc
theorem DO {t:Typ}{x:Val}(hk:1<=t.kind/\t.kind<=7)(h:FitS t x):lF t.kind (x.num,x.scale,x.text)=x/\(x.text=[]->t.kind=4\/t.kind=5->lF t.kind q0=x):=by
 have h1:=h.kd
 have h2:=h.fm
 obtain⟨k,n,s,tx,l,f⟩:=x
 simp only[Val.kind,Val.num,Val.scale,Val.text] at *
 rw[<- h1] at hk ⊢
 have e:k=1\/k=2\/k=3\/k=4\/k=5\/k=6\/k=7:=by omega
 have key:l=[]/\f=[]/\(k=4\/k=5->n=0/\s=0):=by
  rcases e with rfl | rfl | rfl | rfl | rfl | rfl | rfl
  all_goals
   simp[ae] at h2
   simp[h2]
 obtain⟨rfl,rfl,h3⟩:=key
 refine⟨rfl,fun h4 h5=>?_⟩
 obtain⟨rfl,rfl⟩:=h3 h5
 rw[h4];rfl
def RS (t:Typ)(x:Val)(tx:List UInt8):Prop:=bu t.kind tx=tx/\rdC t.kind t.scale tx=((x.num,x.scale,x.text),0)/\(tx=[]->aT t=true/\lF t.kind q0=x)
def nN (f:Nat)(t:Typ)(x:Val)(tx:List UInt8):Prop:=ag Tryz.prog au f [x.pv] (.str tx)/\((t.kind=4->wrB tx=true)->RS t x tx)
theorem OL {k m M s:Int}{w:List (List UInt8)}{e:List Typ}{f:List TFd}(ho:dK (.mk k m M s w e f)=0)(hk:k=5\/k=4/\w.length=0):0<=m:=by
 have hb:=(bm ho).2.1
 unfold dh at hb
 rw[if_neg (by omega)] at hb
 by_cases hx:(2<=k/\k<=8)/\(M<m\/m<loK k\/hiK k<M)
 ·rw[if_pos hx] at hb;exact absurd hb (by decide)
 ·have hl:loK k=0:=by
   rcases hk with rfl | ⟨rfl,_⟩<;>rfl
  omega
theorem Cj {t:Typ}{x:Val}(ho:dK t=0)(hk:t.kind=4\/t.kind=5)(h:FitS t x)(h0:x.text=[]):aT t=true:=by
 obtain⟨k,m,M,s,w,e,f⟩:=t
 have hw:=h.wd
 have ht:=h.tx
 rw[h0] at hw ht
 simp only[Typ.kind,Typ.words,Typ.min,Typ.max] at hk hw ht
 show (if k=4/\0<w.length then w.any fun x=>decide (x=[]) else (decide (k=4)||decide (k=5))&&decide (m=0))=true
 by_cases c:k=4/\0<w.length
 ·rw[if_pos c];exact hw c.1 c.2
 ·rw[if_neg c]
  have hb:=OL ho (by omega)
  have hm:=ht (by omega)
  have:m=0:=by
   have:=hm.1
   simp only[List.length_nil] at this
   omega
  rcases hk with rfl | rfl<;>simp[this]
theorem IJ {t:Typ}{x:Val}(hk:t.kind=1)(h:FitS t x):nN 84 t x (if x.num=1 then [84] else [70])/\(((if x.num=1 then [84] else [70]:List UInt8).length:Nat):Int)<=dm t:=by
 obtain⟨h1,h2⟩:=h.kd,h.fm
 have hq:=(DO (by omega) h).1
 obtain⟨k,m,M,s,w,e,f⟩:=t
 simp only[Typ.kind] at hk
 subst hk
 obtain⟨k,n,sc,tx,l,fs⟩:=x
 simp only[Val.kind,Typ.kind] at h1
 subst h1
 have hn:(n=0\/n=1)/\sc=0/\tx=[]:=by
  simp[ae] at h2
  exact⟨h2.1,h2.2.1,h2.2.2.1⟩
 obtain⟨hn,rfl,rfl⟩:=hn
 change nN 84 _ _ (if n=1 then [84] else [70])/\(((if n=1 then [84] else [70]:List UInt8).length:Nat):Int)<=_
 rcases hn with rfl | rfl
 ·rw[if_neg (by decide)]
  refine⟨⟨?_,fun _=>⟨rfl,rfl,fun e=>by cases e⟩⟩,by simp[dm]⟩
  refine ag.intro Q84.2 (by simp[Q84]) ?_
  simp(disch:=try exact dI) only[Q84,Val.pv_mk,push_cast,seval]
 ·rw[if_pos rfl]
  refine⟨⟨?_,fun _=>⟨rfl,rfl,fun e=>by cases e⟩⟩,by simp[dm]⟩
  refine ag.intro Q84.2 (by simp[Q84]) ?_
  simp(disch:=try exact dI) only[Q84,Val.pv_mk,push_cast,seval]
theorem pT:∀ (l:List (List UInt8)) (a:Int) (y:List UInt8),(y∈l->(y.length:Int)<=mH l a)/\a<=mH l a
 | [],a,y=>⟨fun h=>(by cases h),by simp[mH]⟩
 | z::r,a,y=>by
   have i1:=pT r (max a (z.length:Int)) y
   rw[show mH (z::r) a=mH r (max a (z.length:Int)) from rfl]
   refine⟨fun hy=>?_,by omega⟩
   rcases List.mem_cons.1 hy with rfl | hy
   ·omega
   ·exact i1.1 hy
theorem II {t:Typ}{x:Val}(hk:t.kind=4)(ho:dK t=0)(h:FitS t x):nN 85 t x x.text/\(x.text.length:Int)<=dm t:=by
 obtain⟨h1,h2⟩:=h.kd,h.fm
 have hq:=DO (by omega) h
 have hem:=Cj ho (.inl hk) h
 have hwd:=h.wd hk
 have htx:=h.tx
 obtain⟨k,m,M,s,w,e,f⟩:=t
 simp only[Typ.kind,Typ.words,Typ.min,Typ.max] at hk hwd htx h1 hq
 subst hk
 have hlen:(x.text.length:Int)<=dm (.mk 4 m M s w e f):=by
  rw[show dm (.mk 4 m M s w e f)=max (mH w M) 1 from rfl]
  by_cases h0:w.length=0
  ·have:=(htx (.inr ⟨rfl,h0⟩)).2
   have:=(pT w M []).2
   omega
  ·obtain⟨y,hy,hye⟩:=List.any_eq_true.1 (hwd (by omega))
   rw[<- of_decide_eq_true hye]
   have:=(pT w M y).1 hy
   omega
 obtain⟨k,n,sc,tx,l,fs⟩:=x
 simp only[Val.kind,Val.text,Val.num,Val.scale] at *
 subst h1
 have hv:Lib.validD tx=true/\n=0/\sc=0:=by
  simp[ae] at h2
  exact⟨h2.1,h2.2.1,h2.2.2.1⟩
 obtain⟨hv,rfl,rfl⟩:=hv
 refine⟨⟨?_,fun hw=>?_⟩,hlen⟩
 ·refine ag.intro Q85.2 (by simp[Q85]) ?_
  simp(disch:=try exact dI) only[Q85,Val.pv_mk,push_cast,seval]
 ·have hw:=hw (by first | rfl | trivial)
  refine⟨?_,?_,fun e=>⟨hem e,hq.2 e (.inl (by first | rfl | trivial))⟩⟩
  ·show bu 4 tx=tx
   rw[bu,if_neg (by decide)];exact Mz hw
  ·show rdC 4 s tx=((0,0,tx),0)
   rw[zF,rdT,hv,hw];rfl
theorem IH {t:Typ}{x:Val}(hk:t.kind=5)(ho:dK t=0)(h:FitS t x):nN 86 t x (fD x.text)/\((fD x.text).length:Int)<=dm t:=by
 obtain⟨h1,h2⟩:=h.kd,h.fm
 have hq:=DO (by omega) h
 have hem:=Cj ho (.inr hk) h
 have htx:=(h.tx (.inl hk)).2
 obtain⟨k,m,M,s,w,e,f⟩:=t
 simp only[Typ.kind,Typ.max] at hk htx h1 hq
 subst hk
 have hM:=qP ho
 have hl:=nk x.text
 refine⟨⟨r6 x (by omega),fun _=>⟨mQ (yT _),?_,fun e=>?_⟩⟩,by rw[show dm (.mk 5 m M s w e f)=max (2*M) 1 from rfl];omega⟩
 ·obtain⟨k,n,sc,tx,l,fs⟩:=x
  simp only[Val.kind] at h1
  subst h1
  have hv:n=0/\sc=0:=by
   simp[ae] at h2
   exact⟨h2.1,h2.2.1⟩
  obtain⟨rfl,rfl⟩:=hv
  show rdC 5 s (fD tx)=((0,0,tx),0)
  rw[EJ,pb];rfl
 ·rw[e] at hl
  have h0:x.text=[]:=List.eq_nil_of_length_eq_zero (by simp only[List.length_nil] at hl;omega)
  exact⟨hem h0,hq.2 h0 (.inr rfl)⟩
theorem D4 {t:Typ}{x:Val}(hk:t.kind=2\/t.kind=3)(ho:dK t=0)(h:FitS t x):nN 82 t x (ce x.num x.scale.toNat)/\((ce x.num x.scale.toNat).length:Int)<=dm t:=by
 obtain⟨h1,h2⟩:=h.kd,h.fm
 have hn:=h.nm (by omega)
 have hs:=h.sc
 obtain⟨k,m,M,s,w,e,f⟩:=t
 simp only[Typ.kind,Typ.min,Typ.max,Typ.scale] at hk hn hs h1
 obtain⟨sc,rfl,hm,hM⟩:=qQ ho hk
 have hs2:=(mZ ho (by omega)).2.2
 obtain⟨vk,n,xs,tx,l,fs⟩:=x
 simp only[Val.num,Val.scale,Val.kind] at *
 subst h1
 have hx:xs=(sc:Int)/\tx=[]:=by
  rcases hk with rfl | rfl
  ·simp[ae] at h2
   have:=hs2 rfl
   exact⟨by omega,h2.2.1⟩
  ·simp[ae] at h2
   exact⟨hs rfl,h2.1⟩
 obtain⟨rfl,rfl⟩:=hx
 have hN:IsN n sc:=by unfold IsN at *;omega
 rw[Int.toNat_natCast]
 refine⟨⟨nX vk [] l fs hN,fun _=>⟨mQ (IW _ _),?_,fun e=>?_⟩⟩,by simp only[dm,if_pos hk,Int.toNat_natCast];exact K6 sc hn.1 hn.2⟩
 ·show rdC vk (sc:Int) (ce n sc)=((n,(sc:Int),[]),0)
  unfold rdC
  rw[if_neg (by omega),if_pos hk,rdN,lS hN]
  simp
 ·have:=lS hN
  rw[e] at this
  cases this
theorem IG {t:Typ}{x:Val}(hk:t.kind=6)(ho:dK t=0)(h:FitS t x):∃ tx,nN 87 t x tx/\(tx.length:Int)<=dm t:=by
 obtain⟨h1,h2⟩:=h.kd,h.fm
 have hn:=h.nm (by omega)
 obtain⟨k,m,M,s,w,e,f⟩:=t
 simp only[Typ.kind,Typ.min,Typ.max] at hk hn h1
 subst hk
 have hb:=mZ ho (by omega)
 rw[show loK 6 = -719162 from rfl,show hiK 6=2932896 from rfl] at hb
 obtain⟨y,mo,d,hD,hd⟩:=H5 (n:=x.num+719162) (by omega) (by omega)
 have ht:=yF hD
 have hl:=jM y mo d
 have hp:=qN hD
 rw[<- hd,show x.num+719162 - 719162=x.num by omega] at ht hp
 refine⟨bS y mo d,⟨?_,fun _=>⟨mQ (sw _ _ _),?_,fun e=>by rw[e] at hl;cases hl⟩⟩,by rw[hl,show dm (.mk 6 m M s w e f)=10 from rfl];decide⟩
 ·generalize bS y mo d=T at *
  obtain⟨vk,n,xs,tx,l,fs⟩:=x
  simp only[Val.num] at ht
  refine ag.intro Q87.2 (by simp[Q87]) ?_
  simp(disch:=try exact dI) only[Q87,Val.pv_mk,push_cast,seval]
  refine ab.pure ht rfl ?_
  exact qsZ
 ·obtain⟨vk,n,xs,tx,l,fs⟩:=x
  simp only[Val.kind,Val.num] at *
  subst h1
  have hx:xs=0/\tx=[]:=by simp[ae] at h2;exact⟨h2.1,h2.2.1⟩
  obtain⟨rfl,rfl⟩:=hx
  show rdC 6 s _=((n,0,[]),0)
  rw[JD,hp]
theorem IF {t:Typ}{x:Val}(hk:t.kind=7)(ho:dK t=0)(h:FitS t x):∃ tx,nN 89 t x tx/\(tx.length:Int)<=dm t:=by
 obtain⟨h1,h2⟩:=h.kd,h.fm
 have hn:=h.nm (by omega)
 obtain⟨k,m,M,s,w,e,f⟩:=t
 simp only[Typ.kind,Typ.min,Typ.max] at hk hn h1
 subst hk
 have hb:=mZ ho (by omega)
 rw[show loK 7 = -62135596800000 from rfl,show hiK 7=253402300799999 from rfl] at hb
 obtain⟨y,mo,d,hD,hd⟩:=H5 (n:=x.num / 86400000+719162) (by omega) (by omega)
 obtain⟨r,hr⟩:∃ r:Nat,r=(x.num % 86400000).toNat:=⟨_,rfl⟩
 have e1:r / 3600000<=23:=by omega
 have e2:r / 60000 % 60<=59:=by omega
 have e3:r / 1000 % 60<=59:=by omega
 have e4:r % 1000<=999:=by omega
 have ht:=lI hD e1 e2 e3 e4
 have hp:=qM hD e1 e2 e3 e4
 have hl:=jM y mo d
 have hl2:=yE (bS y mo d) (r / 3600000) (r / 60000 % 60) (r / 1000 % 60) (r % 1000)
 have hx:(g7 y mo d - 719162)*86400000+(((60*((r / 3600000:Nat):Int)+((r / 60000 % 60:Nat):Int))*60+((r / 1000 % 60:Nat):Int))*1000+((r % 1000:Nat):Int))=x.num:=by
  rw[<- hd];omega
 rw[hx] at ht hp
 refine⟨eW (bS y mo d) (r / 3600000) (r / 60000 % 60) (r / 1000 % 60) (r % 1000),⟨?_,fun _=>⟨mQ (En (sw _ _ _) _ _ _ _),?_,fun e=>?_⟩⟩,by rw[show dm (.mk 7 m M s w e f)=24 from rfl];omega⟩
 ·generalize eW (bS y mo d) (r / 3600000) (r / 60000 % 60) (r / 1000 % 60) (r % 1000)=T at *
  obtain⟨vk,n,xs,tx,l,fs⟩:=x
  simp only[Val.num] at ht
  refine ag.intro Q89.2 (by simp[Q89]) ?_
  simp(disch:=try exact dI) only[Q89,Val.pv_mk,push_cast,seval]
  refine ab.pure ht rfl ?_
  exact qsZ
 ·generalize eW (bS y mo d) (r / 3600000) (r / 60000 % 60) (r / 1000 % 60) (r % 1000)=T at *
  clear hx ht hd hl2 e1 e2 e3 e4 hr
  obtain⟨vk,n,xs,tx,l,fs⟩:=x
  simp only[Val.kind,Val.num] at *
  subst h1
  have hx:xs=0/\tx=[]:=by simp[ae] at h2;exact⟨h2.1,h2.2.1⟩
  obtain⟨rfl,rfl⟩:=hx
  show rdC 7 s _=((n,0,[]),0)
  rw[JC,hp]
 ·have:=congrArg List.length e
  simp[eW] at this
theorem D3 {t:Typ}{x:Val}(ho:dK t=0)(hk:1<=t.kind/\t.kind<=7)(h:FitS t x):∃ tx,nN (wrF t.kind) t x tx/\(tx.length:Int)<=dm t:=by
 have hc:t.kind=1\/(t.kind=2\/t.kind=3)\/t.kind=4\/t.kind=5\/t.kind=6\/t.kind=7:=by omega
 rcases hc with e | e | e | e | e | e
 ·rw[e];exact⟨_,IJ e h⟩
 ·rw[show wrF t.kind=82 by rcases e with e | e<;>rw[e]<;>rfl];exact⟨_,D4 e ho h⟩
 ·rw[e];exact⟨_,II e ho h⟩
 ·rw[e];exact⟨_,IH e ho h⟩
 ·rw[e];exact IG e ho h
 ·rw[e];exact IF e ho h
def FTb (v:Val)(g:TFd)(tx:List UInt8):Prop:=(v.fields.find? (bc g.name)=none/\tx=[]/\g.need=2)\/∃ y,v.fields.find? (bc g.name)=some y/\FitS g.typ y.value/\nN (wrF g.typ.kind) g.typ y.value tx
theorem RQ {v:Val}{g:TFd}{tx:List UInt8}(h:FTb v g tx):FTm v g tx:=by
 rcases h with ⟨a,b,_⟩ | ⟨y,a,_,b⟩
 ·exact .inl ⟨a,b⟩
 ·exact .inr ⟨y,a,b.1⟩
theorem KU {t:Typ}{q:Qt}(hf:wp t q=true):xK t (q,0)=0:=by
 unfold xK
 rw[if_pos rfl,if_pos hf]
def xm (v:Val)(g:TFd):Val:=match v.fields.find? (bc g.name) with
 | some y=>y.value
 | none=>ef
theorem CV {v:Val}{g:TFd}{tx:List UInt8}{n:Int}(hc:CellOk g)(h:FTb v g tx)(hst:gl g n=0)(hw:g.typ.kind=4->wrB tx=true):lm g (nR g.typ.kind tx n)=0/\jk g (nR g.typ.kind tx n)=xm v g:=by
 unfold lm jk xm
 rw[Eg]
 rcases h with ⟨h1,rfl,h2⟩ | ⟨y,h1,hf,_,hb⟩
 ·rw[h1]
  have e0:bu g.typ.kind []=[]:=by unfold bu;split<;>rfl
  have hem:aT g.typ=false:=by
   cases he:aT g.typ with
   | false=>rfl
   | true=>
     unfold gl at hst
     by_cases c1:n<1\/4096<n
     ·rw[if_pos c1] at hst;cases hst
     by_cases c2:n<dm g.typ
     ·rw[if_neg c1,if_pos c2] at hst;cases hst
     rw[if_neg c1,if_neg c2,if_pos ⟨h2,he⟩] at hst;cases hst
  rw[e0,if_pos rfl,if_pos rfl]
  unfold ud DG
  rw[if_pos (.inr (.inl h2)),hem,if_neg (by decide),if_pos h2]
  exact⟨rfl,rfl⟩
 ·rw[h1]
  obtain⟨b1,b2,b3⟩:=hb hw
  rw[b1]
  by_cases e0:tx=[]
  ·obtain⟨b4,b5⟩:=b3 e0
   rw[if_pos e0,if_pos e0]
   unfold ud DG
   rw[if_pos (.inl b4),if_pos b4]
   exact⟨rfl,b5⟩
  ·rw[if_neg e0,if_neg e0]
   have hq:=(DO hc.kd hf).1
   unfold rdR
   rw[b2,if_pos (.inl rfl)]
   refine⟨KU ?_,hq⟩
   unfold wp
   rw[hq,tH hc.kd hf];rfl
theorem HF {f:List TFd}{Q:TFd->List UInt8->Prop}{R:TFd->List UInt8->Prop}(key:∀ g∈f,∃ tx,Q g tx/\R g tx):∃ T:TFd->List UInt8,(∀ g∈f,Q g (T g))/\∀ g∈f,R g (T g):=by
 classical
 have h:∀ g∈f,Q g (if h:∃ tx,Q g tx/\R g tx then h.choose else [])/\R g (if h:∃ tx,Q g tx/\R g tx then h.choose else []):=fun g hg=>by
  have h:=key g hg
  rw[dif_pos h]
  exact h.choose_spec
 exact⟨_,fun g hg=>(h g hg).1,fun g hg=>(h g hg).2⟩
theorem yC {t:Typ}{v:Val}(h0:lN t=0)(ht:t.ok)(hfl:eS t=true)(hf:DC t v=true):∃ T:TFd->List UInt8,(∀ g∈t.fields,FTb v g (T g))/\∀ g∈t.fields,∀ n:Int,1<=n->dm g.typ<=n->((T g).length:Int)<=n:=by
 classical
 have hco:=f5 h0 ht hfl
 have key:∀ g∈t.fields,∃ tx,FTb v g tx/\∀ n:Int,1<=n->dm g.typ<=n->((tx.length:Nat):Int)<=n:=fun g hg=>by
  obtain⟨h9,_,hs⟩:=cj hfl
  have hm:bw 2 t v []=[]:=List.isEmpty_iff.1 hf
  have hfm:fL (bw 1) v.fields [] g=[]:=by
   rw[aK] at hm
   by_cases a:t.kind<1\/10<t.kind\/¬ v.kind=t.kind
   ·rw[dX a] at hm;cases hm
   ·cases b:ae v with
    | false=>rw[gE a b] at hm;cases hm
    | true=>
      rw[gD a b h9,Jw] at hm
      exact List.flatMap_eq_nil_iff.1 (List.append_eq_nil_iff.1 hm).1 g hg
  cases hfd:v.fields.find? (bc g.name) with
  | none=>
    refine⟨[],.inl ⟨hfd,rfl,Decidable.byContradiction fun hn=>?_⟩,fun n h1 _=>by simp;omega⟩
    rw[kK hfd hn] at hfm;cases hfm
  | some y=>
    rw[f0 hfd] at hfm
    have hfs:=tk (hco g hg).kd hfm
    obtain⟨tx,h1,h2⟩:=D3 (hco g hg).own (hco g hg).kd hfs
    exact⟨tx,.inr ⟨y,hfd,hfs,h1⟩,fun n _ h3=>by omega⟩
 exact HF key
def fM (T:TFd->List UInt8):List TFd->List Int->List (List UInt8)
 | g::f,n::w=>nR g.typ.kind (T g) n::fM T f w
 | _,_=>[]
theorem iK {T:TFd->List UInt8}:∀ {f:List TFd} {w:List Int},f.length=w.length->(fM T f w).length=f.length
 | [],[],_=>rfl
 | [],_::_,h=>by simp at h
 | _::_,[],h=>by simp at h
 | g::f,n::w,h=>by rw[fM,List.length_cons,List.length_cons,iK (by simpa using h)]
theorem k8 {T:TFd->List UInt8}:∀ {f:List TFd} {w:List Int} {i:Nat} {g:TFd} {n:Int},f[i]? = some g->w[i]? = some n->(fM T f w)[i]? = some (nR g.typ.kind (T g) n)
 | [],_,i,g,n,h,_=>by simp at h
 | _::_,[],i,g,n,_,h=>by simp at h
 | x::f,m::w,0,g,n,h1,h2=>by simp at h1 h2;subst h1 h2;rfl
 | x::f,m::w,i+1,g,n,h1,h2=>by
   rw[fM,List.getElem?_cons_succ]
   exact k8 (by simpa using h1) (by simpa using h2)
theorem iF {T:TFd->List UInt8}:∀ (f:List TFd) (w:List Int) (acc:List UInt8),f.length=w.length->(gN T f w acc).2=0->(gN T f w acc).1=acc++(fM T f w).flatten/\∀ g∈f,g.typ.kind=4->wrB (T g)=true
 | [],[],acc,_,_=>⟨by simp[gN,fM],fun g hg=>by cases hg⟩
 | [],_::_,_,h,_=>by simp at h
 | _::_,[],_,h,_=>by simp at h
 | g::f,n::w,acc,hl,h=>by
   rw[gN] at h ⊢
   by_cases c:g.typ.kind=4/\wrB (T g)=false
   ·rw[if_pos c] at h;cases h
   ·rw[if_neg c] at h ⊢
    obtain⟨i1,i2⟩:=iF f w _ (by simpa using hl) h
    refine⟨by rw[i1,fM,List.flatten_cons,List.append_assoc],fun x hx h4=>?_⟩
    rcases List.mem_cons.1 hx with rfl | hx
    ·cases hb:wrB (T x) with
     | true=>rfl
     | false=>exact absurd ⟨h4,hb⟩ c
    ·exact i2 x hx h4
theorem Ch {T:TFd->List UInt8}:∀ (f:List TFd) (w:List Int) (acc:List UInt8),(∀ g∈f,g.typ.kind=4->wrB (T g)=true)->(gN T f w acc).2=0
 | [],_,_,_=>by rw[gN]
 | _::_,[],_,_=>by rw[gN];exact fun h=>by cases h
 | g::f,n::w,acc,h=>by
   rw[gN,if_neg (fun c=>by rw[h g (List.mem_cons_self ..) c.1] at c;exact absurd c.2 (by decide))]
   exact Ch f w _ fun x hx=>h x (List.mem_cons_of_mem _ hx)
theorem CU (L:List (List UInt8))(i:Nat)(x:List UInt8)(h:L[i]? = some x):bd L.flatten (L.map List.length) i=x:=by
 have key:∀ (L:List (List UInt8)) (i:Nat),i<=L.length->L.flatten.take (cg (L.map List.length) i)=(L.take i).flatten:=by
  intro L
  induction L with
  | nil=>intro i hi;simp
  | cons a r ih=>
    intro i hi
    cases i with
    | zero=>simp[cg]
    | succ i=>
      have:=ih i (by simpa using hi)
      unfold cg at this ⊢
      rw[List.map_cons,List.take_succ_cons,List.sum_cons,List.flatten_cons,List.take_succ_cons,List.flatten_cons,List.take_append,List.take_of_length_le (by omega),Nat.add_sub_cancel_left,this]
 have hi:=(List.getElem?_eq_some_iff.1 h).1
 unfold bd
 rw[key L (i+1) (by omega),aM h,List.flatten_append]
 have hl:cg (L.map List.length) i=(L.take i).flatten.length:=by
  unfold cg
  rw[List.length_flatten,List.map_take]
 rw[hl,List.drop_left]
 simp
theorem DH (f:List TFd)(L:List (List UInt8)):cD f L.flatten (L.map List.length)=f.zip L:=by
 unfold cD
 congr 1
 refine List.ext_getElem? fun i=>?_
 rw[List.getElem?_map,List.length_map]
 by_cases hi:i<L.length
 ·rw[List.getElem?_range hi,List.getElem?_eq_getElem hi,Option.map_some,CU L i _ (List.getElem?_eq_getElem hi)]
 ·rw[List.getElem?_eq_none (by simpa using hi),List.getElem?_eq_none (by omega)];rfl
theorem Iz {S:List Fld}(h:upB S=true):S.Pairwise ltF:=by
 have step:∀ j (h1:j<S.length) (h2:j+1<S.length),ltF S[j] S[j+1]:=fun j h1 h2=>by
  have hj:=dw.1 h j (by omega)
  unfold upJ at hj
  rw[List.getElem?_eq_getElem h1,List.getElem?_eq_getElem h2] at hj
  simp only[Option.map_some,Option.getD_some] at hj
  rw[<- CA] at hj
  unfold ltF
  exact of_decide_eq_true hj
 rw[List.pairwise_iff_getElem]
 intro i j hi hj hij
 obtain⟨d,rfl⟩:∃ d,j=i+1+d:=⟨j - i - 1,by omega⟩
 clear hij
 induction d with
 | zero=>exact step i hi hj
 | succ d ih=>exact gS _ _ _ (ih (by omega)) (step (i+1+d) (by omega) hj)
theorem vB {S:List Fld}(h:S.Pairwise ltF):dj S:=by
 unfold dj
 rw[List.nodup_iff_pairwise_ne,List.pairwise_map]
 refine h.imp fun {a b} hab e=>?_
 unfold ltF at hab
 rw[e] at hab
 rw[iL] at hab
 exact absurd hab (by decide)
end Go.Proofs.YtbojpfpliibfbaaGreatDoor
