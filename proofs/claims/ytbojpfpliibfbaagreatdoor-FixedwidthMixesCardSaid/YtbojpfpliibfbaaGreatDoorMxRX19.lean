/- A part of the proof. -/
import Derived.Test.YtbojpfpliibfbaaGreatDoorMxRX12
set_option maxRecDepth 100000
set_option linter.unusedVariables false
set_option linter.unusedSimpArgs false
namespace Go.Proofs.YtbojpfpliibfbaaGreatDoor
open Go Go.Ab
theorem DI:∀ a b:List UInt8,decide (Lib.compareBytes a b<0)=bj a b
 | [],[]=>rfl
 | [],_::_=>rfl
 | _::_,[]=>rfl
 | a::r,b::q=>by
   have ih:decide (Lib.compareBytes r q<0)=Op.bytesLess r q:=DI r q
   show _=Op.bytesLess (a::r) (b::q)
   rw[Lib.compareBytes,Op.bytesLess]
   by_cases h1:a<b
   ·simp[h1]
   ·by_cases h2:b<a
    ·have:¬ a=b:=by rintro rfl;exact (UInt8.lt_irrefl a) h2
     simp[h1,h2,this]
    ·have h3:a=b:=UInt8.le_antisymm (UInt8.not_lt.1 h2) (UInt8.not_lt.1 h1)
     simp[h1,h2,h3,ih]
theorem oT {v:Val}(h:1<=v.kind):bv v=false:=by
 obtain⟨k,n,s,t,l,f⟩:=v
 simp only[Val.kind] at h
 show (decide (k=0)&&(decide (n=0)&&(decide (s=0)&&(decide (t=[])&&(decide (l.length=0)&&decide (f.length=0))))))=false
 rw[decide_eq_false (by omega),Bool.false_and]
theorem B3 {f:List TFd}(h:(f.map TFd.name).Nodup){a b:TFd}(ha:a∈f)(hb:b∈f)(e:a.name=b.name):a=b:=by
 obtain⟨i,hi,rfl⟩:=List.getElem_of_mem ha
 obtain⟨j,hj,rfl⟩:=List.getElem_of_mem hb
 have hp:=List.pairwise_iff_getElem.1 h
 rcases Nat.lt_trichotomy i j with c | c | c
 ·have:=hp i j (by simpa using hi) (by simpa using hj) c
  simp only[List.getElem_map] at this
  exact absurd e this
 ·subst c;rfl
 ·have:=hp j i (by simpa using hj) (by simpa using hi) c
  simp only[List.getElem_map] at this
  exact absurd e.symm this
theorem NT {S:List Fld}(h:S.Pairwise ltF):upB S=true:=by
 unfold upB
 rw[jx]
 intro j hj
 unfold upJ
 have h1:j<S.length:=by omega
 have h2:j+1<S.length:=by omega
 rw[List.getElem?_eq_getElem h1,List.getElem?_eq_getElem h2]
 simp only[Option.map_some,Option.getD_some]
 rw[<- DI]
 exact decide_eq_true (List.pairwise_iff_getElem.1 h j (j+1) h1 h2 (by omega))
attribute [local irreducible] vc
theorem E1 {t:Typ}{x:Val}(hk:1<=t.kind/\t.kind<=7)(h:FitS t x):yz t.kind (x.num,x.scale,x.text)=x/\(x.text=[]->t.kind=4\/t.kind=5->yz t.kind q0=x):=by
 have h1:=h.kd
 have h2:=h.fm
 obtain⟨k,n,s,tx,l,f⟩:=x
 simp only[Val.kind,Val.num,Val.scale,Val.text] at *
 rw[<- h1] at hk ⊢
 have e:k=1\/k=2\/k=3\/k=4\/k=5\/k=6\/k=7:=by omega
 have key:l=[]/\f=[]/\(k=4\/k=5->n=0/\s=0):=by
  rcases e with rfl | rfl | rfl | rfl | rfl | rfl | rfl
  all_goals
   simp[aL] at h2
   simp[h2]
 obtain⟨rfl,rfl,h3⟩:=key
 refine⟨rfl,fun h4 h5=>?_⟩
 obtain⟨rfl,rfl⟩:=h3 h5
 rw[h4];rfl
def TG (t:Typ)(x:Val)(tx:List UInt8):Prop:=cx t.kind tx=tx/\rdC t.kind t.scale tx=((x.num,x.scale,x.text),0)/\(tx=[]->aX t=true/\yz t.kind q0=x)
def nN (f:Nat)(t:Typ)(x:Val)(tx:List UInt8):Prop:=ag Tryz.prog aq f [x.pv] (.str tx)/\((t.kind=4->wrB tx=true)->TG t x tx)
theorem Qr {k m M s:Int}{w:List (List UInt8)}{e:List Typ}{f:List TFd}(ho:dM (.mk k m M s w e f)=0)(hk:k=5\/k=4/\w.length=0):0<=m:=by
 have hb:=(bh ho).2.1
 unfold dC at hb
 rw[if_neg (by omega)] at hb
 by_cases hx:(2<=k/\k<=8)/\(M<m\/m<loK k\/hiK k<M)
 ·rw[if_pos hx] at hb;exact absurd hb (by decide)
 ·have hl:loK k=0:=by
   rcases hk with rfl | ⟨rfl,_⟩<;>rfl
  omega
theorem Dq {t:Typ}{x:Val}(ho:dM t=0)(hk:t.kind=4\/t.kind=5)(h:FitS t x)(h0:x.text=[]):aX t=true:=by
 obtain⟨k,m,M,s,w,e,f⟩:=t
 have hw:=h.wd
 have ht:=h.tx
 rw[h0] at hw ht
 simp only[Typ.kind,Typ.words,Typ.min,Typ.max] at hk hw ht
 show (if k=4/\0<w.length then w.any fun x=>decide (x=[]) else (decide (k=4)||decide (k=5))&&decide (m=0))=true
 by_cases c:k=4/\0<w.length
 ·rw[if_pos c];exact hw c.1 c.2
 ·rw[if_neg c]
  have hb:=Qr ho (by omega)
  have hm:=ht (by omega)
  have:m=0:=by
   have:=hm.1
   simp only[List.length_nil] at this
   omega
  rcases hk with rfl | rfl<;>simp[this]
theorem Kd {t:Typ}{x:Val}(hk:t.kind=1)(h:FitS t x):nN 84 t x (if x.num=1 then [84] else [70])/\(((if x.num=1 then [84] else [70]:List UInt8).length:Nat):Int)<=cD t:=by
 obtain⟨h1,h2⟩:=h.kd,h.fm
 have hq:=(E1 (by omega) h).1
 obtain⟨k,m,M,s,w,e,f⟩:=t
 simp only[Typ.kind] at hk
 subst hk
 obtain⟨k,n,sc,tx,l,fs⟩:=x
 simp only[Val.kind,Typ.kind] at h1
 subst h1
 have hn:(n=0\/n=1)/\sc=0/\tx=[]:=by
  simp[aL] at h2
  exact⟨h2.1,h2.2.1,h2.2.2.1⟩
 obtain⟨hn,rfl,rfl⟩:=hn
 change nN 84 _ _ (if n=1 then [84] else [70])/\(((if n=1 then [84] else [70]:List UInt8).length:Nat):Int)<=_
 rcases hn with rfl | rfl
 ·rw[if_neg (by decide)]
  refine⟨⟨?_,fun _=>⟨rfl,rfl,fun e=>by cases e⟩⟩,by simp[cD]⟩
  refine ag.intro Q84.2 (by simp[Q84]) ?_
  simp(disch:=try exact dI) only[Q84,Val.pv_mk,push_cast,seval]
 ·rw[if_pos rfl]
  refine⟨⟨?_,fun _=>⟨rfl,rfl,fun e=>by cases e⟩⟩,by simp[cD]⟩
  refine ag.intro Q84.2 (by simp[Q84]) ?_
  simp(disch:=try exact dI) only[Q84,Val.pv_mk,push_cast,seval]
theorem qw:∀ (l:List (List UInt8)) (a:Int) (y:List UInt8),(y∈l->(y.length:Int)<=mD l a)/\a<=mD l a
 | [],a,y=>⟨fun h=>(by cases h),by simp[mD]⟩
 | z::r,a,y=>by
   have i1:=qw r (max a (z.length:Int)) y
   rw[show mD (z::r) a=mD r (max a (z.length:Int)) from rfl]
   refine⟨fun hy=>?_,by omega⟩
   rcases List.mem_cons.1 hy with rfl | hy
   ·omega
   ·exact i1.1 hy
theorem Kc {t:Typ}{x:Val}(hk:t.kind=4)(ho:dM t=0)(h:FitS t x):nN 85 t x x.text/\(x.text.length:Int)<=cD t:=by
 obtain⟨h1,h2⟩:=h.kd,h.fm
 have hq:=E1 (by omega) h
 have hem:=Dq ho (.inl hk) h
 have hwd:=h.wd hk
 have htx:=h.tx
 obtain⟨k,m,M,s,w,e,f⟩:=t
 simp only[Typ.kind,Typ.words,Typ.min,Typ.max] at hk hwd htx h1 hq
 subst hk
 have hlen:(x.text.length:Int)<=cD (.mk 4 m M s w e f):=by
  rw[show cD (.mk 4 m M s w e f)=max (mD w M) 1 from rfl]
  by_cases h0:w.length=0
  ·have:=(htx (.inr ⟨rfl,h0⟩)).2
   have:=(qw w M []).2
   omega
  ·obtain⟨y,hy,hye⟩:=List.any_eq_true.1 (hwd (by omega))
   rw[<- of_decide_eq_true hye]
   have:=(qw w M y).1 hy
   omega
 obtain⟨k,n,sc,tx,l,fs⟩:=x
 simp only[Val.kind,Val.text,Val.num,Val.scale] at *
 subst h1
 have hv:Lib.validD tx=true/\n=0/\sc=0:=by
  simp[aL] at h2
  exact⟨h2.1,h2.2.1,h2.2.2.1⟩
 obtain⟨hv,rfl,rfl⟩:=hv
 refine⟨⟨?_,fun hw=>?_⟩,hlen⟩
 ·refine ag.intro Q85.2 (by simp[Q85]) ?_
  simp(disch:=try exact dI) only[Q85,Val.pv_mk,push_cast,seval]
 ·have hw:=hw (by first | rfl | trivial)
  refine⟨?_,?_,fun e=>⟨hem e,hq.2 e (.inl (by first | rfl | trivial))⟩⟩
  ·show cx 4 tx=tx
   rw[cx,if_neg (by decide)];exact NU hw
  ·show rdC 4 s tx=((0,0,tx),0)
   rw[OA,rdT,hv,hw];rfl
theorem Kb {t:Typ}{x:Val}(hk:t.kind=5)(ho:dM t=0)(h:FitS t x):nN 86 t x (f7 x.text)/\((f7 x.text).length:Int)<=cD t:=by
 obtain⟨h1,h2⟩:=h.kd,h.fm
 have hq:=E1 (by omega) h
 have hem:=Dq ho (.inr hk) h
 have htx:=(h.tx (.inl hk)).2
 obtain⟨k,m,M,s,w,e,f⟩:=t
 simp only[Typ.kind,Typ.max] at hk htx h1 hq
 subst hk
 have hM:=rr ho
 have hl:=nk x.text
 refine⟨⟨ES x (by omega),fun _=>⟨mL (Am _),?_,fun e=>?_⟩⟩,by rw[show cD (.mk 5 m M s w e f)=max (2*M) 1 from rfl];omega⟩
 ·obtain⟨k,n,sc,tx,l,fs⟩:=x
  simp only[Val.kind] at h1
  subst h1
  have hv:n=0/\sc=0:=by
   simp[aL] at h2
   exact⟨h2.1,h2.2.1⟩
  obtain⟨rfl,rfl⟩:=hv
  show rdC 5 s (f7 tx)=((0,0,tx),0)
  rw[Oz,pr];rfl
 ·rw[e] at hl
  have h0:x.text=[]:=List.eq_nil_of_length_eq_zero (by simp only[List.length_nil] at hl;omega)
  exact⟨hem h0,hq.2 h0 (.inr rfl)⟩
theorem Fl {t:Typ}{x:Val}(hk:t.kind=2\/t.kind=3)(ho:dM t=0)(h:FitS t x):nN 82 t x (ce x.num x.scale.toNat)/\((ce x.num x.scale.toNat).length:Int)<=cD t:=by
 obtain⟨h1,h2⟩:=h.kd,h.fm
 have hn:=h.nm (by omega)
 have hs:=h.sc
 obtain⟨k,m,M,s,w,e,f⟩:=t
 simp only[Typ.kind,Typ.min,Typ.max,Typ.scale] at hk hn hs h1
 obtain⟨sc,rfl,hm,hM⟩:=rt ho hk
 have hs2:=(mX ho (by omega)).2.2
 obtain⟨vk,n,xs,tx,l,fs⟩:=x
 simp only[Val.num,Val.scale,Val.kind] at *
 subst h1
 have hx:xs=(sc:Int)/\tx=[]:=by
  rcases hk with rfl | rfl
  ·simp[aL] at h2
   have:=hs2 rfl
   exact⟨by omega,h2.2.1⟩
  ·simp[aL] at h2
   exact⟨hs rfl,h2.1⟩
 obtain⟨rfl,rfl⟩:=hx
 have hN:IsN n sc:=by unfold IsN at *;omega
 rw[Int.toNat_natCast]
 refine⟨⟨zd vk [] l fs hN,fun _=>⟨mL (Kp _ _),?_,fun e=>?_⟩⟩,by simp only[cD,if_pos hk,Int.toNat_natCast];exact Mv sc hn.1 hn.2⟩
 ·show rdC vk (sc:Int) (ce n sc)=((n,(sc:Int),[]),0)
  unfold rdC
  rw[if_neg (by omega),if_pos hk,rdN,lS hN]
  simp
 ·have:=lS hN
  rw[e] at this
  cases this
theorem Ka {t:Typ}{x:Val}(hk:t.kind=6)(ho:dM t=0)(h:FitS t x):∃ tx,nN 87 t x tx/\(tx.length:Int)<=cD t:=by
 obtain⟨h1,h2⟩:=h.kd,h.fm
 have hn:=h.nm (by omega)
 obtain⟨k,m,M,s,w,e,f⟩:=t
 simp only[Typ.kind,Typ.min,Typ.max] at hk hn h1
 subst hk
 have hb:=mX ho (by omega)
 rw[show loK 6 = -719162 from rfl,show hiK 6=2932896 from rfl] at hb
 obtain⟨y,mo,d,hD,hd⟩:=Jv (n:=x.num+719162) (by omega) (by omega)
 have ht:=IP hD
 have hl:=jJ y mo d
 have hp:=rq hD
 rw[<- hd,show x.num+719162 - 719162=x.num by omega] at ht hp
 refine⟨cE y mo d,⟨?_,fun _=>⟨mL (s9 _ _ _),?_,fun e=>by rw[e] at hl;cases hl⟩⟩,by rw[hl,show cD (.mk 6 m M s w e f)=10 from rfl];decide⟩
 ·generalize cE y mo d=T at *
  obtain⟨vk,n,xs,tx,l,fs⟩:=x
  simp only[Val.num] at ht
  refine ag.intro Q87.2 (by simp[Q87]) ?_
  simp(disch:=try exact dI) only[Q87,Val.pv_mk,push_cast,seval]
  refine ab.pure ht rfl ?_
  exact qsZ
 ·obtain⟨vk,n,xs,tx,l,fs⟩:=x
  simp only[Val.kind,Val.num] at *
  subst h1
  have hx:xs=0/\tx=[]:=by simp[aL] at h2;exact⟨h2.1,h2.2.1⟩
  obtain⟨rfl,rfl⟩:=hx
  show rdC 6 s _=((n,0,[]),0)
  rw[Oy,hp]
theorem J9 {t:Typ}{x:Val}(hk:t.kind=7)(ho:dM t=0)(h:FitS t x):∃ tx,nN 89 t x tx/\(tx.length:Int)<=cD t:=by
 obtain⟨h1,h2⟩:=h.kd,h.fm
 have hn:=h.nm (by omega)
 obtain⟨k,m,M,s,w,e,f⟩:=t
 simp only[Typ.kind,Typ.min,Typ.max] at hk hn h1
 subst hk
 have hb:=mX ho (by omega)
 rw[show loK 7 = -62135596800000 from rfl,show hiK 7=253402300799999 from rfl] at hb
 obtain⟨y,mo,d,hD,hd⟩:=Jv (n:=x.num / 86400000+719162) (by omega) (by omega)
 obtain⟨r,hr⟩:∃ r:Nat,r=(x.num % 86400000).toNat:=⟨_,rfl⟩
 have e1:r / 3600000<=23:=by omega
 have e2:r / 60000 % 60<=59:=by omega
 have e3:r / 1000 % 60<=59:=by omega
 have e4:r % 1000<=999:=by omega
 have ht:=uZ hD e1 e2 e3 e4
 have hp:=rn hD e1 e2 e3 e4
 have hl:=jJ y mo d
 have hl2:=zU (cE y mo d) (r / 3600000) (r / 60000 % 60) (r / 1000 % 60) (r % 1000)
 have hx:(jg y mo d - 719162)*86400000+(((60*((r / 3600000:Nat):Int)+((r / 60000 % 60:Nat):Int))*60+((r / 1000 % 60:Nat):Int))*1000+((r % 1000:Nat):Int))=x.num:=by
  rw[<- hd];omega
 rw[hx] at ht hp
 refine⟨fF (cE y mo d) (r / 3600000) (r / 60000 % 60) (r / 1000 % 60) (r % 1000),⟨?_,fun _=>⟨mL (FF (s9 _ _ _) _ _ _ _),?_,fun e=>?_⟩⟩,by rw[show cD (.mk 7 m M s w e f)=24 from rfl];omega⟩
 ·generalize fF (cE y mo d) (r / 3600000) (r / 60000 % 60) (r / 1000 % 60) (r % 1000)=T at *
  obtain⟨vk,n,xs,tx,l,fs⟩:=x
  simp only[Val.num] at ht
  refine ag.intro Q89.2 (by simp[Q89]) ?_
  simp(disch:=try exact dI) only[Q89,Val.pv_mk,push_cast,seval]
  refine ab.pure ht rfl ?_
  exact qsZ
 ·generalize fF (cE y mo d) (r / 3600000) (r / 60000 % 60) (r / 1000 % 60) (r % 1000)=T at *
  clear hx ht hd hl2 e1 e2 e3 e4 hr
  obtain⟨vk,n,xs,tx,l,fs⟩:=x
  simp only[Val.kind,Val.num] at *
  subst h1
  have hx:xs=0/\tx=[]:=by simp[aL] at h2;exact⟨h2.1,h2.2.1⟩
  obtain⟨rfl,rfl⟩:=hx
  show rdC 7 s _=((n,0,[]),0)
  rw[Ox,hp]
 ·have:=congrArg List.length e
  simp[fF] at this
theorem Fk {t:Typ}{x:Val}(ho:dM t=0)(hk:1<=t.kind/\t.kind<=7)(h:FitS t x):∃ tx,nN (wrF t.kind) t x tx/\(tx.length:Int)<=cD t:=by
 have hc:t.kind=1\/(t.kind=2\/t.kind=3)\/t.kind=4\/t.kind=5\/t.kind=6\/t.kind=7:=by omega
 rcases hc with e | e | e | e | e | e
 ·rw[e];exact⟨_,Kd e h⟩
 ·rw[show wrF t.kind=82 by rcases e with e | e<;>rw[e]<;>rfl];exact⟨_,Fl e ho h⟩
 ·rw[e];exact⟨_,Kc e ho h⟩
 ·rw[e];exact⟨_,Kb e ho h⟩
 ·rw[e];exact Ka e ho h
 ·rw[e];exact J9 e ho h
def FTb (v:Val)(g:TFd)(tx:List UInt8):Prop:=(v.fields.find? (aF g.name)=none/\tx=[]/\g.need=2)\/∃ y,v.fields.find? (aF g.name)=some y/\FitS g.typ y.value/\nN (wrF g.typ.kind) g.typ y.value tx
theorem TC {v:Val}{g:TFd}{tx:List UInt8}(h:FTb v g tx):FTm v g tx:=by
 rcases h with ⟨a,b,_⟩ | ⟨y,a,_,b⟩
 ·exact .inl ⟨a,b⟩
 ·exact .inr ⟨y,a,b.1⟩
theorem Mk {t:Typ}{q:Qt}(hf:yI t q=true):yK t (q,0)=0:=by
 unfold yK
 rw[if_pos rfl,if_pos hf]
def x7 (v:Val)(g:TFd):Val:=match v.fields.find? (aF g.name) with
 | some y=>y.value
 | none=>eM
theorem DZ {v:Val}{g:TFd}{tx:List UInt8}{n:Int}(hc:CellOk g)(h:FTb v g tx)(hst:fS g n=0)(hw:g.typ.kind=4->wrB tx=true):nW g (nS g.typ.kind tx n)=0/\MG g (nS g.typ.kind tx n)=x7 v g:=by
 unfold nW MG x7
 rw[Fx]
 rcases h with ⟨h1,rfl,h2⟩ | ⟨y,h1,hf,_,hb⟩
 ·rw[h1]
  have e0:cx g.typ.kind []=[]:=by unfold cx;split<;>rfl
  have hem:aX g.typ=false:=by
   cases he:aX g.typ with
   | false=>rfl
   | true=>
     unfold fS at hst
     by_cases c1:n<1\/4096<n
     ·rw[if_pos c1] at hst;cases hst
     by_cases c2:n<cD g.typ
     ·rw[if_neg c1,if_pos c2] at hst;cases hst
     rw[if_neg c1,if_neg c2,if_pos ⟨h2,he⟩] at hst;cases hst
  rw[e0,if_pos rfl,if_pos rfl]
  unfold yQ Qo
  rw[if_pos (.inr (.inl h2)),hem,if_neg (by decide),if_pos h2]
  exact⟨rfl,rfl⟩
 ·rw[h1]
  obtain⟨b1,b2,b3⟩:=hb hw
  rw[b1]
  by_cases e0:tx=[]
  ·obtain⟨b4,b5⟩:=b3 e0
   rw[if_pos e0,if_pos e0]
   unfold yQ Qo
   rw[if_pos (.inl b4),if_pos b4]
   exact⟨rfl,b5⟩
  ·rw[if_neg e0,if_neg e0]
   have hq:=(E1 hc.kd hf).1
   unfold rdR
   rw[b2,if_pos (.inl rfl)]
   refine⟨Mk ?_,hq⟩
   unfold yI
   rw[hq,HK hc.kd hf];rfl
theorem OF {f:List TFd}{Q:TFd->List UInt8->Prop}{R:TFd->List UInt8->Prop}(key:∀ g∈f,∃ tx,Q g tx/\R g tx):∃ T:TFd->List UInt8,(∀ g∈f,Q g (T g))/\∀ g∈f,R g (T g):=by
 classical
 have h:∀ g∈f,Q g (if h:∃ tx,Q g tx/\R g tx then h.choose else [])/\R g (if h:∃ tx,Q g tx/\R g tx then h.choose else []):=fun g hg=>by
  have h:=key g hg
  rw[dif_pos h]
  exact h.choose_spec
 exact⟨_,fun g hg=>(h g hg).1,fun g hg=>(h g hg).2⟩
theorem zP {t:Typ}{v:Val}(h0:lM t=0)(ht:t.ok)(hfl:ff t=true)(hf:nU t v=true):∃ T:TFd->List UInt8,(∀ g∈t.fields,FTb v g (T g))/\∀ g∈t.fields,∀ n:Int,1<=n->cD g.typ<=n->((T g).length:Int)<=n:=by
 classical
 have hco:=kX h0 ht hfl
 have key:∀ g∈t.fields,∃ tx,FTb v g tx/\∀ n:Int,1<=n->cD g.typ<=n->((tx.length:Nat):Int)<=n:=fun g hg=>by
  obtain⟨h9,_,hs⟩:=cj hfl
  have hm:bL 2 t v []=[]:=List.isEmpty_iff.1 hf
  have hfm:eI (bL 1) v.fields [] g=[]:=by
   rw[bz] at hm
   by_cases a:t.kind<1\/10<t.kind\/¬ v.kind=t.kind
   ·rw[bM a] at hm;cases hm
   ·cases b:aL v with
    | false=>rw[fc a b] at hm;cases hm
    | true=>
      rw[e8 a b h9,AN] at hm
      exact List.flatMap_eq_nil_iff.1 (List.append_eq_nil_iff.1 hm).1 g hg
  cases hfd:v.fields.find? (aF g.name) with
  | none=>
    refine⟨[],.inl ⟨hfd,rfl,Decidable.byContradiction fun hn=>?_⟩,fun n h1 _=>by simp;omega⟩
    rw[kH hfd hn] at hfm;cases hfm
  | some y=>
    rw[kG hfd] at hfm
    have hfs:=G5 (hco g hg).kd hfm
    obtain⟨tx,h1,h2⟩:=Fk (hco g hg).own (hco g hg).kd hfs
    exact⟨tx,.inr ⟨y,hfd,hfs,h1⟩,fun n _ h3=>by omega⟩
 exact OF key
def br (T:TFd->List UInt8):List TFd->List Int->List (List UInt8)
 | g::f,n::w=>nS g.typ.kind (T g) n::br T f w
 | _,_=>[]
theorem cf {T:TFd->List UInt8}:∀ {f:List TFd} {w:List Int},f.length=w.length->(br T f w).length=f.length
 | [],[],_=>rfl
 | [],_::_,h=>by simp at h
 | _::_,[],h=>by simp at h
 | g::f,n::w,h=>by rw[br,List.length_cons,List.length_cons,cf (by simpa using h)]
theorem dg {T:TFd->List UInt8}:∀ {f:List TFd} {w:List Int} {i:Nat} {g:TFd} {n:Int},f[i]? = some g->w[i]? = some n->(br T f w)[i]? = some (nS g.typ.kind (T g) n)
 | [],_,i,g,n,h,_=>by simp at h
 | _::_,[],i,g,n,_,h=>by simp at h
 | x::f,m::w,0,g,n,h1,h2=>by simp at h1 h2;subst h1 h2;rfl
 | x::f,m::w,i+1,g,n,h1,h2=>by
   rw[br,List.getElem?_cons_succ]
   exact dg (by simpa using h1) (by simpa using h2)
theorem dU {T:TFd->List UInt8}:∀ (f:List TFd) (w:List Int) (acc:List UInt8),f.length=w.length->(gH T f w acc).2=0->(gH T f w acc).1=acc++(br T f w).flatten/\∀ g∈f,g.typ.kind=4->wrB (T g)=true
 | [],[],acc,_,_=>⟨by simp[gH,br],fun g hg=>by cases hg⟩
 | [],_::_,_,h,_=>by simp at h
 | _::_,[],_,h,_=>by simp at h
 | g::f,n::w,acc,hl,h=>by
   rw[gH] at h ⊢
   by_cases c:g.typ.kind=4/\wrB (T g)=false
   ·rw[if_pos c] at h;cases h
   ·rw[if_neg c] at h ⊢
    obtain⟨i1,i2⟩:=dU f w _ (by simpa using hl) h
    refine⟨by rw[i1,br,List.flatten_cons,List.append_assoc],fun x hx h4=>?_⟩
    rcases List.mem_cons.1 hx with rfl | hx
    ·cases hb:wrB (T x) with
     | true=>rfl
     | false=>exact absurd ⟨h4,hb⟩ c
    ·exact i2 x hx h4
theorem Dp {T:TFd->List UInt8}:∀ (f:List TFd) (w:List Int) (acc:List UInt8),(∀ g∈f,g.typ.kind=4->wrB (T g)=true)->(gH T f w acc).2=0
 | [],_,_,_=>by rw[gH]
 | _::_,[],_,_=>by rw[gH];exact fun h=>by cases h
 | g::f,n::w,acc,h=>by
   rw[gH,if_neg (fun c=>by rw[h g (List.mem_cons_self ..) c.1] at c;exact absurd c.2 (by decide))]
   exact Dp f w _ fun x hx=>h x (List.mem_cons_of_mem _ hx)
theorem pR (L:List (List UInt8))(i:Nat)(x:List UInt8)(h:L[i]? = some x):ew L.flatten (L.map List.length) i=x:=by
 have key:∀ (L:List (List UInt8)) (i:Nat),i<=L.length->L.flatten.take (bQ (L.map List.length) i)=(L.take i).flatten:=by
  intro L
  induction L with
  | nil=>intro i hi;simp
  | cons a r ih=>
    intro i hi
    cases i with
    | zero=>simp[bQ]
    | succ i=>
      have:=ih i (by simpa using hi)
      unfold bQ at this ⊢
      rw[List.map_cons,List.take_succ_cons,List.sum_cons,List.flatten_cons,List.take_succ_cons,List.flatten_cons,List.take_append,List.take_of_length_le (by omega),Nat.add_sub_cancel_left,this]
 have hi:=(List.getElem?_eq_some_iff.1 h).1
 unfold ew
 rw[key L (i+1) (by omega),aH h,List.flatten_append]
 have hl:bQ (L.map List.length) i=(L.take i).flatten.length:=by
  unfold bQ
  rw[List.length_flatten,List.map_take]
 rw[hl,List.drop_left]
 simp
theorem EP (f:List TFd)(L:List (List UInt8)):cP f L.flatten (L.map List.length)=f.zip L:=by
 unfold cP
 congr 1
 refine List.ext_getElem? fun i=>?_
 rw[List.getElem?_map,List.length_map]
 by_cases hi:i<L.length
 ·rw[List.getElem?_range hi,List.getElem?_eq_getElem hi,Option.map_some,pR L i _ (List.getElem?_eq_getElem hi)]
 ·rw[List.getElem?_eq_none (by simpa using hi),List.getElem?_eq_none (by omega)];rfl
theorem J2 {S:List Fld}(h:upB S=true):S.Pairwise ltF:=by
 have step:∀ j (h1:j<S.length) (h2:j+1<S.length),ltF S[j] S[j+1]:=fun j h1 h2=>by
  have hj:=jx.1 h j (by omega)
  unfold upJ at hj
  rw[List.getElem?_eq_getElem h1,List.getElem?_eq_getElem h2] at hj
  simp only[Option.map_some,Option.getD_some] at hj
  rw[<- DI] at hj
  unfold ltF
  exact of_decide_eq_true hj
 rw[List.pairwise_iff_getElem]
 intro i j hi hj hij
 obtain⟨d,rfl⟩:∃ d,j=i+1+d:=⟨j - i - 1,by omega⟩
 clear hij
 induction d with
 | zero=>exact step i hi hj
 | succ d ih=>exact gM _ _ _ (ih (by omega)) (step (i+1+d) (by omega) hj)
theorem cQ {S:List Fld}(h:S.Pairwise ltF):ey S:=by
 unfold ey
 rw[List.nodup_iff_pairwise_ne,List.pairwise_map]
 refine h.imp fun {a b} hab e=>?_
 unfold ltF at hab
 rw[e] at hab
 rw[iJ] at hab
 exact absurd hab (by decide)
end Go.Proofs.YtbojpfpliibfbaaGreatDoor
