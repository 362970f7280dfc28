/- A part of the proof. -/
import Derived.Test.YtbojpfpliibfbaaGreatDoorRtRX11
set_option maxRecDepth 100000
set_option linter.unusedVariables false
set_option linter.unusedSimpArgs false
namespace Go.Proofs.YtbojpfpliibfbaaGreatDoor
open Go Go.Ab
attribute [local irreducible] vc
theorem tl {f:List TFd}{line:List UInt8}{v:List Nat}(h:f.length=v.length):((dQ f line v).map lz).map Fld.name=f.map TFd.name:=by
 have h1:((dQ f line v).map lz).map Fld.name=((dQ f line v).map Prod.fst).map TFd.name:=by
  rw[List.map_map,List.map_map];rfl
 rw[h1]
 congr 1
 unfold dQ
 exact List.map_fst_zip (by rw[List.length_map,List.length_range];omega)
theorem CI {f:List TFd}{line:List UInt8}{v:List Nat}{x:TFd×List UInt8}(hx:x∈dQ f line v):x.1∈f/\x.2.length<=line.length:=by
 unfold dQ at hx
 obtain⟨a,b⟩:=x
 obtain⟨h1,h2⟩:=List.of_mem_zip hx
 obtain⟨i,_,rfl⟩:=List.mem_map.1 h2
 exact⟨h1,by unfold eF;rw[List.length_drop,List.length_take];omega⟩
structure DecOk (t:Typ)(w:List Int)(line:List UInt8)(v:List Nat):Prop where
 rep:kC t w=0
 nat:w=v.map fun n:Nat=>(n:Int)
 sum:line.length=v.sum
 len:t.fields.length=v.length
 bnd:∀ x∈v,1<=x/\x<=4096
 cel:∀ x∈dQ t.fields line v,np x.1 x.2=0
theorem rL {t:Typ}{w:List Int}(ht:t.ok)(he:kC t w=0):FJ w=false/\w.length=t.fields.length/\w.length<=64/\mc t=0/\eW t=true:=by
 obtain⟨hfe,hlen,hrl⟩:=eP he
 obtain⟨h0,hfl⟩:=j1 hfe
 have hst:=fV t.fields w 0 hlen.symm hrl
 have h64:t.fields.length<=64:=by
  have ho:=ii (jr h0)
  obtain⟨k,m,M,s,wd,e,f⟩:=t
  exact zg ho
 refine⟨?_,hlen,by omega,h0,hfl⟩
 unfold FJ
 rw[decide_eq_false (by omega),Bool.false_or,List.any_eq_false]
 intro x hx
 obtain⟨i,hi,hx⟩:=List.getElem_of_mem hx
 have hw:w[i]? = some x:=by rw[List.getElem?_eq_getElem hi,hx]
 obtain⟨g,hg⟩:∃ g,t.fields[i]? = some g:=⟨_,List.getElem?_eq_getElem (by omega)⟩
 obtain⟨h1,h2,_⟩:=e7 (hst i g x hg hw)
 unfold Ci
 simp;omega
theorem lH {t:Typ}{w:List Int}{line:List UInt8}{v:List Nat}(ht:t.ok)(h0:mc t=0)(hfl:eW t=true)(hlen:t.fields.length=v.length)(hll:line.length<=1000000)(hc:∀ x∈dQ t.fields line v,np x.1 x.2=0) :
  (∀ x∈(dQ t.fields line v).map lz,x.ok)/\ky ((dQ t.fields line v).map lz):=by
 have hco:=mW h0 ht hfl
 have hok:∀ g∈t.fields,g.ok:=by
  obtain⟨k,m,M,s,wd,e,f⟩:=t
  rw[Typ.ok_mk] at ht
  exact ht.2.2.2.2.2.2.2.2.2
 refine⟨fun y hy=>?_,?_⟩
 ·obtain⟨x,hx,rfl⟩:=List.mem_map.1 hy
  obtain⟨m1,m2⟩:=CI hx
  have hg:=hok x.1 m1
  unfold lz
  rw[Fld.ok_mk]
  refine⟨?_,Nd (hco x.1 m1) (by omega) (hc x hx)⟩
  obtain⟨⟨n,nm,nd,ty,d⟩,s⟩:=x
  simp only at hg
  rw[TFd.ok_mk] at hg
  exact hg.2.1
 ·unfold ky
  rw[tl hlen]
  exact AY h0
structure FitS (t:Typ)(v:Val):Prop where
 kd:v.kind=t.kind
 fm:ae v=true
 nm:t.kind=2\/t.kind=6\/t.kind=7\/t.kind=3->t.min<=v.num/\v.num<=t.max
 sc:t.kind=3->v.scale=t.scale
 wd:t.kind=4->0<t.words.length->(t.words.any fun x=>decide (x=v.text))=true
 tx:t.kind=5\/t.kind=4/\t.words.length=0->t.min<=(v.text.length:Int)/\(v.text.length:Int)<=t.max
theorem rY {a b n:Int}{p:List UInt8}(h:a<=n/\n<=b):uB a b p n=[]:=if_neg (by omega)
theorem Ff {t:Typ}{v:Val}(hk:1<=t.kind/\t.kind<=7)(h:FitS t v)(p:List UInt8):bq 1 t v p=[]:=by
 have a:¬ (t.kind<1\/10<t.kind\/¬ v.kind=t.kind):=fun q=>q.elim (by omega) fun q=>q.elim (by omega) fun q=>q h.kd
 rw[aK]
 have e:t.kind=1\/(t.kind=2\/t.kind=6\/t.kind=7)\/t.kind=3\/t.kind=4\/t.kind=5:=by omega
 rcases e with e | e | e | e | e
 ·exact ll a h.fm e
 ·rw[eU a h.fm e];exact rY (h.nm (by omega))
 ·rw[jS a h.fm e (h.sc e)];exact rY (h.nm (by omega))
 ·by_cases hw:0<t.words.length
  ·exact lk a h.fm e hw (h.wd e hw)
  ·rw[dH a h.fm (.inl e) (fun _=>by omega)];exact rY (h.tx (.inr ⟨e,by omega⟩))
 ·rw[dH a h.fm (.inr e) (fun q=>by omega)];exact rY (h.tx (.inl e))
theorem EC {t:Typ}{v:Val}{p:List UInt8}(hk:1<=t.kind/\t.kind<=7)(h:bq 1 t v p=[]):FitS t v:=by
 obtain⟨h1,h2⟩:=Fg h
 have a:¬ (t.kind<1\/10<t.kind\/¬ v.kind=t.kind):=fun q=>q.elim (by omega) fun q=>q.elim (by omega) fun q=>q h1
 rw[aK] at h
 have hsc:t.kind=3->v.scale=t.scale:=fun e=>Decidable.byContradiction fun hs=>by rw[jQ a h2 e hs] at h;cases h
 refine⟨h1,h2,fun e=>?_,hsc,fun e hw=>?_,fun e=>?_⟩
 ·by_cases e3:t.kind=3
  ·rw[jS a h2 e3 (hsc e3)] at h;exact p5 h
  ·rw[eU a h2 (by omega)] at h;exact p5 h
 ·cases ha:(t.words.any fun x=>decide (x=v.text)) with
  | true=>rfl
  | false=>rw[ir a h2 e hw ha] at h;cases h
 ·rw[dH a h2 (by omega) (fun q=>by omega)] at h;exact p5 h
theorem G4:∀ a b:List UInt8,decide (Lib.compareBytes a b<0)=aQ a b
 | [],[]=>rfl
 | [],_::_=>rfl
 | _::_,[]=>rfl
 | a::r,b::q=>by
   have ih:decide (Lib.compareBytes r q<0)=Op.bytesLess r q:=G4 r q
   show _=Op.bytesLess (a::r) (b::q)
   rw[Lib.compareBytes,Op.bytesLess]
   by_cases h1:a<b
   ·simp[h1]
   ·by_cases h2:b<a
    ·have:¬ a=b:=by rintro rfl;exact (UInt8.lt_irrefl a) h2
     simp[h1,h2,this]
    ·have h3:a=b:=UInt8.le_antisymm (UInt8.not_lt.1 h2) (UInt8.not_lt.1 h1)
     simp[h1,h2,h3,ih]
theorem zH {v:Val}(h:1<=v.kind):bK v=false:=by
 obtain⟨k,n,s,t,l,f⟩:=v
 simp only[Val.kind] at h
 show (decide (k=0)&&(decide (n=0)&&(decide (s=0)&&(decide (t=[])&&(decide (l.length=0)&&decide (f.length=0))))))=false
 rw[decide_eq_false (by omega),Bool.false_and]
theorem CQ {t:Typ}{x:Val}(hk:1<=t.kind/\t.kind<=7)(h:FitS t x):wD t.kind (x.num,x.scale,x.text)=x/\(x.text=[]->t.kind=4\/t.kind=5->wD t.kind q0=x):=by
 have h1:=h.kd
 have h2:=h.fm
 obtain⟨k,n,s,tx,l,f⟩:=x
 simp only[Val.kind,Val.num,Val.scale,Val.text] at *
 rw[<- h1] at hk ⊢
 have e:k=1\/k=2\/k=3\/k=4\/k=5\/k=6\/k=7:=by omega
 have key:l=[]/\f=[]/\(k=4\/k=5->n=0/\s=0):=by
  rcases e with rfl | rfl | rfl | rfl | rfl | rfl | rfl
  all_goals
   simp[ae] at h2
   simp[h2]
 obtain⟨rfl,rfl,h3⟩:=key
 refine⟨rfl,fun h4 h5=>?_⟩
 obtain⟨rfl,rfl⟩:=h3 h5
 rw[h4];rfl
def QK (t:Typ)(x:Val)(tx:List UInt8):Prop:=cg t.kind tx=tx/\rdC t.kind t.scale tx=((x.num,x.scale,x.text),0)/\(tx=[]->aY t=true/\wD t.kind q0=x)
def na (f:Nat)(t:Typ)(x:Val)(tx:List UInt8):Prop:=ag Tryz.prog au f [x.pv] (.str tx)/\((t.kind=4->wrB tx=true)->QK t x tx)
theorem NC {k m M s:Int}{w:List (List UInt8)}{e:List Typ}{f:List TFd}(ho:dE (.mk k m M s w e f)=0)(hk:k=5\/k=4/\w.length=0):0<=m:=by
 have hb:=(bm ho).2.1
 unfold du at hb
 rw[if_neg (by omega)] at hb
 by_cases hx:(2<=k/\k<=8)/\(M<m\/m<loK k\/hiK k<M)
 ·rw[if_pos hx] at hb;exact absurd hb (by decide)
 ·have hl:loK k=0:=by
   rcases hk with rfl | ⟨rfl,_⟩<;>rfl
  omega
theorem Bv {t:Typ}{x:Val}(ho:dE t=0)(hk:t.kind=4\/t.kind=5)(h:FitS t x)(h0:x.text=[]):aY t=true:=by
 obtain⟨k,m,M,s,w,e,f⟩:=t
 have hw:=h.wd
 have ht:=h.tx
 rw[h0] at hw ht
 simp only[Typ.kind,Typ.words,Typ.min,Typ.max] at hk hw ht
 show (if k=4/\0<w.length then w.any fun x=>decide (x=[]) else (decide (k=4)||decide (k=5))&&decide (m=0))=true
 by_cases c:k=4/\0<w.length
 ·rw[if_pos c];exact hw c.1 c.2
 ·rw[if_neg c]
  have hb:=NC ho (by omega)
  have hm:=ht (by omega)
  have:m=0:=by
   have:=hm.1
   simp only[List.length_nil] at this
   omega
  rcases hk with rfl | rfl<;>simp[this]
theorem HG {t:Typ}{x:Val}(hk:t.kind=1)(h:FitS t x):na 84 t x (if x.num=1 then [84] else [70])/\(((if x.num=1 then [84] else [70]:List UInt8).length:Nat):Int)<=cS t:=by
 obtain⟨h1,h2⟩:=h.kd,h.fm
 have hq:=(CQ (by omega) h).1
 obtain⟨k,m,M,s,w,e,f⟩:=t
 simp only[Typ.kind] at hk
 subst hk
 obtain⟨k,n,sc,tx,l,fs⟩:=x
 simp only[Val.kind,Typ.kind] at h1
 subst h1
 have hn:(n=0\/n=1)/\sc=0/\tx=[]:=by
  simp[ae] at h2
  exact⟨h2.1,h2.2.1,h2.2.2.1⟩
 obtain⟨hn,rfl,rfl⟩:=hn
 change na 84 _ _ (if n=1 then [84] else [70])/\(((if n=1 then [84] else [70]:List UInt8).length:Nat):Int)<=_
 rcases hn with rfl | rfl
 ·rw[if_neg (by decide)]
  refine⟨⟨?_,fun _=>⟨rfl,rfl,fun e=>by cases e⟩⟩,by simp[cS]⟩
  refine ag.intro Q84.2 (by simp[Q84]) ?_
  simp(disch:=try exact dI) only[Q84,Val.pv_mk,push_cast,seval]
 ·rw[if_pos rfl]
  refine⟨⟨?_,fun _=>⟨rfl,rfl,fun e=>by cases e⟩⟩,by simp[cS]⟩
  refine ag.intro Q84.2 (by simp[Q84]) ?_
  simp(disch:=try exact dI) only[Q84,Val.pv_mk,push_cast,seval]
theorem ph:∀ (l:List (List UInt8)) (a:Int) (y:List UInt8),(y∈l->(y.length:Int)<=lU l a)/\a<=lU l a
 | [],a,y=>⟨fun h=>(by cases h),by simp[lU]⟩
 | z::r,a,y=>by
   have i1:=ph r (max a (z.length:Int)) y
   rw[show lU (z::r) a=lU r (max a (z.length:Int)) from rfl]
   refine⟨fun hy=>?_,by omega⟩
   rcases List.mem_cons.1 hy with rfl | hy
   ·omega
   ·exact i1.1 hy
theorem HF {t:Typ}{x:Val}(hk:t.kind=4)(ho:dE t=0)(h:FitS t x):na 85 t x x.text/\(x.text.length:Int)<=cS t:=by
 obtain⟨h1,h2⟩:=h.kd,h.fm
 have hq:=CQ (by omega) h
 have hem:=Bv ho (.inl hk) h
 have hwd:=h.wd hk
 have htx:=h.tx
 obtain⟨k,m,M,s,w,e,f⟩:=t
 simp only[Typ.kind,Typ.words,Typ.min,Typ.max] at hk hwd htx h1 hq
 subst hk
 have hlen:(x.text.length:Int)<=cS (.mk 4 m M s w e f):=by
  rw[show cS (.mk 4 m M s w e f)=max (lU w M) 1 from rfl]
  by_cases h0:w.length=0
  ·have:=(htx (.inr ⟨rfl,h0⟩)).2
   have:=(ph w M []).2
   omega
  ·obtain⟨y,hy,hye⟩:=List.any_eq_true.1 (hwd (by omega))
   rw[<- of_decide_eq_true hye]
   have:=(ph w M y).1 hy
   omega
 obtain⟨k,n,sc,tx,l,fs⟩:=x
 simp only[Val.kind,Val.text,Val.num,Val.scale] at *
 subst h1
 have hv:Lib.validD tx=true/\n=0/\sc=0:=by
  simp[ae] at h2
  exact⟨h2.1,h2.2.1,h2.2.2.1⟩
 obtain⟨hv,rfl,rfl⟩:=hv
 refine⟨⟨?_,fun hw=>?_⟩,hlen⟩
 ·refine ag.intro Q85.2 (by simp[Q85]) ?_
  simp(disch:=try exact dI) only[Q85,Val.pv_mk,push_cast,seval]
 ·have hw:=hw (by first | rfl | trivial)
  refine⟨?_,?_,fun e=>⟨hem e,hq.2 e (.inl (by first | rfl | trivial))⟩⟩
  ·show cg 4 tx=tx
   rw[cg,if_neg (by decide)];exact Lk hw
  ·show rdC 4 s tx=((0,0,tx),0)
   rw[LX,rdT,hv,hw];rfl
theorem HE {t:Typ}{x:Val}(hk:t.kind=5)(ho:dE t=0)(h:FitS t x):na 86 t x (fQ x.text)/\((fQ x.text).length:Int)<=cS t:=by
 obtain⟨h1,h2⟩:=h.kd,h.fm
 have hq:=CQ (by omega) h
 have hem:=Bv ho (.inr hk) h
 have htx:=(h.tx (.inl hk)).2
 obtain⟨k,m,M,s,w,e,f⟩:=t
 simp only[Typ.kind,Typ.max] at hk htx h1 hq
 subst hk
 have hM:=pY ho
 have hl:=mG x.text
 refine⟨⟨CK x (by omega),fun _=>⟨l9 (xU _),?_,fun e=>?_⟩⟩,by rw[show cS (.mk 5 m M s w e f)=max (2*M) 1 from rfl];omega⟩
 ·obtain⟨k,n,sc,tx,l,fs⟩:=x
  simp only[Val.kind] at h1
  subst h1
  have hv:n=0/\sc=0:=by
   simp[ae] at h2
   exact⟨h2.1,h2.2.1⟩
  obtain⟨rfl,rfl⟩:=hv
  show rdC 5 s (fQ tx)=((0,0,tx),0)
  rw[LW,ox];rfl
 ·rw[e] at hl
  have h0:x.text=[]:=List.eq_nil_of_length_eq_zero (by simp only[List.length_nil] at hl;omega)
  exact⟨hem h0,hq.2 h0 (.inr rfl)⟩
theorem C6 {t:Typ}{x:Val}(hk:t.kind=2\/t.kind=3)(ho:dE t=0)(h:FitS t x):na 82 t x (bT x.num x.scale.toNat)/\((bT x.num x.scale.toNat).length:Int)<=cS t:=by
 obtain⟨h1,h2⟩:=h.kd,h.fm
 have hn:=h.nm (by omega)
 have hs:=h.sc
 obtain⟨k,m,M,s,w,e,f⟩:=t
 simp only[Typ.kind,Typ.min,Typ.max,Typ.scale] at hk hn hs h1
 obtain⟨sc,rfl,hm,hM⟩:=pZ ho hk
 have hs2:=(mm ho (by omega)).2.2
 obtain⟨vk,n,xs,tx,l,fs⟩:=x
 simp only[Val.num,Val.scale,Val.kind] at *
 subst h1
 have hx:xs=(sc:Int)/\tx=[]:=by
  rcases hk with rfl | rfl
  ·simp[ae] at h2
   have:=hs2 rfl
   exact⟨by omega,h2.2.1⟩
  ·simp[ae] at h2
   exact⟨hs rfl,h2.1⟩
 obtain⟨rfl,rfl⟩:=hx
 have hN:IsN n sc:=by unfold IsN at *;omega
 rw[Int.toNat_natCast]
 refine⟨⟨wW vk [] l fs hN,fun _=>⟨l9 (HS _ _),?_,fun e=>?_⟩⟩,by simp only[cS,if_pos hk,Int.toNat_natCast];exact J0 sc hn.1 hn.2⟩
 ·show rdC vk (sc:Int) (bT n sc)=((n,(sc:Int),[]),0)
  unfold rdC
  rw[if_neg (by omega),if_pos hk,rdN,k9 hN]
  simp
 ·have:=k9 hN
  rw[e] at this
  cases this
theorem HD {t:Typ}{x:Val}(hk:t.kind=6)(ho:dE t=0)(h:FitS t x):∃ tx,na 87 t x tx/\(tx.length:Int)<=cS t:=by
 obtain⟨h1,h2⟩:=h.kd,h.fm
 have hn:=h.nm (by omega)
 obtain⟨k,m,M,s,w,e,f⟩:=t
 simp only[Typ.kind,Typ.min,Typ.max] at hk hn h1
 subst hk
 have hb:=mm ho (by omega)
 rw[show loK 6 = -719162 from rfl,show hiK 6=2932896 from rfl] at hb
 obtain⟨y,mo,d,hD,hd⟩:=G0 (n:=x.num+719162) (by omega) (by omega)
 have ht:=Gh hD
 have hl:=jk y mo d
 have hp:=pX hD
 rw[<- hd,show x.num+719162 - 719162=x.num by omega] at ht hp
 refine⟨cr y mo d,⟨?_,fun _=>⟨l9 (rF _ _ _),?_,fun e=>by rw[e] at hl;cases hl⟩⟩,by rw[hl,show cS (.mk 6 m M s w e f)=10 from rfl];decide⟩
 ·generalize cr y mo d=T at *
  obtain⟨vk,n,xs,tx,l,fs⟩:=x
  simp only[Val.num] at ht
  refine ag.intro Q87.2 (by simp[Q87]) ?_
  simp(disch:=try exact dI) only[Q87,Val.pv_mk,push_cast,seval]
  refine ab.pure ht rfl ?_
  exact qsZ
 ·obtain⟨vk,n,xs,tx,l,fs⟩:=x
  simp only[Val.kind,Val.num] at *
  subst h1
  have hx:xs=0/\tx=[]:=by simp[ae] at h2;exact⟨h2.1,h2.2.1⟩
  obtain⟨rfl,rfl⟩:=hx
  show rdC 6 s _=((n,0,[]),0)
  rw[LV,hp]
theorem HC {t:Typ}{x:Val}(hk:t.kind=7)(ho:dE t=0)(h:FitS t x):∃ tx,na 89 t x tx/\(tx.length:Int)<=cS t:=by
 obtain⟨h1,h2⟩:=h.kd,h.fm
 have hn:=h.nm (by omega)
 obtain⟨k,m,M,s,w,e,f⟩:=t
 simp only[Typ.kind,Typ.min,Typ.max] at hk hn h1
 subst hk
 have hb:=mm ho (by omega)
 rw[show loK 7 = -62135596800000 from rfl,show hiK 7=253402300799999 from rfl] at hb
 obtain⟨y,mo,d,hD,hd⟩:=G0 (n:=x.num / 86400000+719162) (by omega) (by omega)
 obtain⟨r,hr⟩:∃ r:Nat,r=(x.num % 86400000).toNat:=⟨_,rfl⟩
 have e1:r / 3600000<=23:=by omega
 have e2:r / 60000 % 60<=59:=by omega
 have e3:r / 1000 % 60<=59:=by omega
 have e4:r % 1000<=999:=by omega
 have ht:=tB hD e1 e2 e3 e4
 have hp:=pV hD e1 e2 e3 e4
 have hl:=jk y mo d
 have hl2:=xG (cr y mo d) (r / 3600000) (r / 60000 % 60) (r / 1000 % 60) (r % 1000)
 have hx:(iL y mo d - 719162)*86400000+(((60*((r / 3600000:Nat):Int)+((r / 60000 % 60:Nat):Int))*60+((r / 1000 % 60:Nat):Int))*1000+((r % 1000:Nat):Int))=x.num:=by
  rw[<- hd];omega
 rw[hx] at ht hp
 refine⟨fh (cr y mo d) (r / 3600000) (r / 60000 % 60) (r / 1000 % 60) (r % 1000),⟨?_,fun _=>⟨l9 (Dp (rF _ _ _) _ _ _ _),?_,fun e=>?_⟩⟩,by rw[show cS (.mk 7 m M s w e f)=24 from rfl];omega⟩
 ·generalize fh (cr y mo d) (r / 3600000) (r / 60000 % 60) (r / 1000 % 60) (r % 1000)=T at *
  obtain⟨vk,n,xs,tx,l,fs⟩:=x
  simp only[Val.num] at ht
  refine ag.intro Q89.2 (by simp[Q89]) ?_
  simp(disch:=try exact dI) only[Q89,Val.pv_mk,push_cast,seval]
  refine ab.pure ht rfl ?_
  exact qsZ
 ·generalize fh (cr y mo d) (r / 3600000) (r / 60000 % 60) (r / 1000 % 60) (r % 1000)=T at *
  clear hx ht hd hl2 e1 e2 e3 e4 hr
  obtain⟨vk,n,xs,tx,l,fs⟩:=x
  simp only[Val.kind,Val.num] at *
  subst h1
  have hx:xs=0/\tx=[]:=by simp[ae] at h2;exact⟨h2.1,h2.2.1⟩
  obtain⟨rfl,rfl⟩:=hx
  show rdC 7 s _=((n,0,[]),0)
  rw[LU,hp]
 ·have:=congrArg List.length e
  simp[fh] at this
theorem C5 {t:Typ}{x:Val}(ho:dE t=0)(hk:1<=t.kind/\t.kind<=7)(h:FitS t x):∃ tx,na (wrF t.kind) t x tx/\(tx.length:Int)<=cS t:=by
 have hc:t.kind=1\/(t.kind=2\/t.kind=3)\/t.kind=4\/t.kind=5\/t.kind=6\/t.kind=7:=by omega
 rcases hc with e | e | e | e | e | e
 ·rw[e];exact⟨_,HG e h⟩
 ·rw[show wrF t.kind=82 by rcases e with e | e<;>rw[e]<;>rfl];exact⟨_,C6 e ho h⟩
 ·rw[e];exact⟨_,HF e ho h⟩
 ·rw[e];exact⟨_,HE e ho h⟩
 ·rw[e];exact HD e ho h
 ·rw[e];exact HC e ho h
def FTb (v:Val)(g:TFd)(tx:List UInt8):Prop:=(v.fields.find? (bn g.name)=none/\tx=[]/\g.need=2)\/∃ y,v.fields.find? (bn g.name)=some y/\FitS g.typ y.value/\na (wrF g.typ.kind) g.typ y.value tx
theorem QI {v:Val}{g:TFd}{tx:List UInt8}(h:FTb v g tx):FTm v g tx:=by
 rcases h with ⟨a,b,_⟩ | ⟨y,a,_,b⟩
 ·exact .inl ⟨a,b⟩
 ·exact .inr ⟨y,a,b.1⟩
theorem JP {t:Typ}{q:Qt}(hf:wH t q=true):wJ t (q,0)=0:=by
 unfold wJ
 rw[if_pos rfl,if_pos hf]
def wi (v:Val)(g:TFd):Val:=match v.fields.find? (bn g.name) with
 | some y=>y.value
 | none=>eC
theorem B2 {v:Val}{g:TFd}{tx:List UInt8}{n:Int}(hc:CellOk g)(h:FTb v g tx)(hst:fA g n=0)(hw:g.typ.kind=4->wrB tx=true):np g (pb g.typ.kind tx n)=0/\Kb g (pb g.typ.kind tx n)=wi v g:=by
 unfold np Kb wi
 rw[Di]
 rcases h with ⟨h1,rfl,h2⟩ | ⟨y,h1,hf,_,hb⟩
 ·rw[h1]
  have e0:cg g.typ.kind []=[]:=by unfold cg;split<;>rfl
  have hem:aY g.typ=false:=by
   cases he:aY g.typ with
   | false=>rfl
   | true=>
     unfold fA at hst
     by_cases c1:n<1\/4096<n
     ·rw[if_pos c1] at hst;cases hst
     by_cases c2:n<cS g.typ
     ·rw[if_neg c1,if_pos c2] at hst;cases hst
     rw[if_neg c1,if_neg c2,if_pos ⟨h2,he⟩] at hst;cases hst
  rw[e0,if_pos rfl,if_pos rfl]
  unfold wN Ny
  rw[if_pos (.inr (.inl h2)),hem,if_neg (by decide),if_pos h2]
  exact⟨rfl,rfl⟩
 ·rw[h1]
  obtain⟨b1,b2,b3⟩:=hb hw
  rw[b1]
  by_cases e0:tx=[]
  ·obtain⟨b4,b5⟩:=b3 e0
   rw[if_pos e0,if_pos e0]
   unfold wN Ny
   rw[if_pos (.inl b4),if_pos b4]
   exact⟨rfl,b5⟩
  ·rw[if_neg e0,if_neg e0]
   have hq:=(CQ hc.kd hf).1
   unfold rdR
   rw[b2,if_pos (.inl rfl)]
   refine⟨JP ?_,hq⟩
   unfold wH
   rw[hq,Ff hc.kd hf];rfl
theorem L4 {f:List TFd}{Q:TFd->List UInt8->Prop}{R:TFd->List UInt8->Prop}(key:∀ g∈f,∃ tx,Q g tx/\R g tx):∃ T:TFd->List UInt8,(∀ g∈f,Q g (T g))/\∀ g∈f,R g (T g):=by
 classical
 have h:∀ g∈f,Q g (if h:∃ tx,Q g tx/\R g tx then h.choose else [])/\R g (if h:∃ tx,Q g tx/\R g tx then h.choose else []):=fun g hg=>by
  have h:=key g hg
  rw[dif_pos h]
  exact h.choose_spec
 exact⟨_,fun g hg=>(h g hg).1,fun g hg=>(h g hg).2⟩
theorem xF {t:Typ}{v:Val}(h0:mc t=0)(ht:t.ok)(hfl:eW t=true)(hf:A2 t v=true):∃ T:TFd->List UInt8,(∀ g∈t.fields,FTb v g (T g))/\∀ g∈t.fields,∀ n:Int,1<=n->cS g.typ<=n->((T g).length:Int)<=n:=by
 classical
 have hco:=mW h0 ht hfl
 have key:∀ g∈t.fields,∃ tx,FTb v g tx/\∀ n:Int,1<=n->cS g.typ<=n->((tx.length:Nat):Int)<=n:=fun g hg=>by
  obtain⟨h9,_,hs⟩:=dc hfl
  have hm:bq 2 t v []=[]:=List.isEmpty_iff.1 hf
  have hfm:fu (bq 1) v.fields [] g=[]:=by
   rw[aK] at hm
   by_cases a:t.kind<1\/10<t.kind\/¬ v.kind=t.kind
   ·rw[dJ a] at hm;cases hm
   ·cases b:ae v with
    | false=>rw[f7 a b] at hm;cases hm
    | true=>
      rw[jR a b h9,KH] at hm
      exact List.flatMap_eq_nil_iff.1 (List.append_eq_nil_iff.1 hm).1 g hg
  cases hfd:v.fields.find? (bn g.name) with
  | none=>
    refine⟨[],.inl ⟨hfd,rfl,Decidable.byContradiction fun hn=>?_⟩,fun n h1 _=>by simp;omega⟩
    rw[j7 hfd hn] at hfm;cases hfm
  | some y=>
    rw[j6 hfd] at hfm
    have hfs:=EC (hco g hg).kd hfm
    obtain⟨tx,h1,h2⟩:=C5 (hco g hg).own (hco g hg).kd hfs
    exact⟨tx,.inr ⟨y,hfd,hfs,h1⟩,fun n _ h3=>by omega⟩
 exact L4 key
def gp (T:TFd->List UInt8):List TFd->List Int->List (List UInt8)
 | g::f,n::w=>pb g.typ.kind (T g) n::gp T f w
 | _,_=>[]
theorem lL {T:TFd->List UInt8}:∀ {f:List TFd} {w:List Int},f.length=w.length->(gp T f w).length=f.length
 | [],[],_=>rfl
 | [],_::_,h=>by simp at h
 | _::_,[],h=>by simp at h
 | g::f,n::w,h=>by rw[gp,List.length_cons,List.length_cons,lL (by simpa using h)]
theorem oN {T:TFd->List UInt8}:∀ {f:List TFd} {w:List Int} {i:Nat} {g:TFd} {n:Int},f[i]? = some g->w[i]? = some n->(gp T f w)[i]? = some (pb g.typ.kind (T g) n)
 | [],_,i,g,n,h,_=>by simp at h
 | _::_,[],i,g,n,_,h=>by simp at h
 | x::f,m::w,0,g,n,h1,h2=>by simp at h1 h2;subst h1 h2;rfl
 | x::f,m::w,i+1,g,n,h1,h2=>by
   rw[gp,List.getElem?_cons_succ]
   exact oN (by simpa using h1) (by simpa using h2)
theorem lF {T:TFd->List UInt8}:∀ (f:List TFd) (w:List Int) (acc:List UInt8),f.length=w.length->(mS T f w acc).2=0->(mS T f w acc).1=acc++(gp T f w).flatten/\∀ g∈f,g.typ.kind=4->wrB (T g)=true
 | [],[],acc,_,_=>⟨by simp[mS,gp],fun g hg=>by cases hg⟩
 | [],_::_,_,h,_=>by simp at h
 | _::_,[],_,h,_=>by simp at h
 | g::f,n::w,acc,hl,h=>by
   rw[mS] at h ⊢
   by_cases c:g.typ.kind=4/\wrB (T g)=false
   ·rw[if_pos c] at h;cases h
   ·rw[if_neg c] at h ⊢
    obtain⟨i1,i2⟩:=lF f w _ (by simpa using hl) h
    refine⟨by rw[i1,gp,List.flatten_cons,List.append_assoc],fun x hx h4=>?_⟩
    rcases List.mem_cons.1 hx with rfl | hx
    ·cases hb:wrB (T x) with
     | true=>rfl
     | false=>exact absurd ⟨h4,hb⟩ c
    ·exact i2 x hx h4
theorem B1 (L:List (List UInt8))(i:Nat)(x:List UInt8)(h:L[i]? = some x):eF L.flatten (L.map List.length) i=x:=by
 have key:∀ (L:List (List UInt8)) (i:Nat),i<=L.length->L.flatten.take (fG (L.map List.length) i)=(L.take i).flatten:=by
  intro L
  induction L with
  | nil=>intro i hi;simp
  | cons a r ih=>
    intro i hi
    cases i with
    | zero=>simp[fG]
    | succ i=>
      have:=ih i (by simpa using hi)
      unfold fG at this ⊢
      rw[List.map_cons,List.take_succ_cons,List.sum_cons,List.flatten_cons,List.take_succ_cons,List.flatten_cons,List.take_append,List.take_of_length_le (by omega),Nat.add_sub_cancel_left,this]
 have hi:=(List.getElem?_eq_some_iff.1 h).1
 unfold eF
 rw[key L (i+1) (by omega),aL h,List.flatten_append]
 have hl:fG (L.map List.length) i=(L.take i).flatten.length:=by
  unfold fG
  rw[List.length_flatten,List.map_take]
 rw[hl,List.drop_left]
 simp
theorem CH (f:List TFd)(L:List (List UInt8)):dQ f L.flatten (L.map List.length)=f.zip L:=by
 unfold dQ
 congr 1
 refine List.ext_getElem? fun i=>?_
 rw[List.getElem?_map,List.length_map]
 by_cases hi:i<L.length
 ·rw[List.getElem?_range hi,List.getElem?_eq_getElem hi,Option.map_some,B1 L i _ (List.getElem?_eq_getElem hi)]
 ·rw[List.getElem?_eq_none (by simpa using hi),List.getElem?_eq_none (by omega)];rfl
theorem Hw {S:List Fld}(h:upB S=true):S.Pairwise ltF:=by
 have step:∀ j (h1:j<S.length) (h2:j+1<S.length),ltF S[j] S[j+1]:=fun j h1 h2=>by
  have hj:=ek.1 h j (by omega)
  unfold upJ at hj
  rw[List.getElem?_eq_getElem h1,List.getElem?_eq_getElem h2] at hj
  simp only[Option.map_some,Option.getD_some] at hj
  rw[<- G4] at hj
  unfold ltF
  exact of_decide_eq_true hj
 rw[List.pairwise_iff_getElem]
 intro i j hi hj hij
 obtain⟨d,rfl⟩:∃ d,j=i+1+d:=⟨j - i - 1,by omega⟩
 clear hij
 induction d with
 | zero=>exact step i hi hj
 | succ d ih=>exact i8 _ _ _ (ih (by omega)) (step (i+1+d) (by omega) hj)
theorem uu {S:List Fld}(h:S.Pairwise ltF):ky S:=by
 unfold ky
 rw[List.nodup_iff_pairwise_ne,List.pairwise_map]
 refine h.imp fun {a b} hab e=>?_
 unfold ltF at hab
 rw[e] at hab
 rw[ia] at hab
 exact absurd hab (by decide)
end Go.Proofs.YtbojpfpliibfbaaGreatDoor
