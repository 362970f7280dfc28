/- A part. -/
import Derived.Test.YtbaaokocnegdoaaGreatDoorEnVUh
set_option linter.unusedVariables false
set_option linter.unusedSimpArgs false
set_option maxRecDepth 100000
open Bool renaming true_and->Wb,false_and->Wc,and_eq_true->Vr
open Decidable renaming byContradiction->WD
namespace Go.Proofs.YtbaaokocnegdoaaGreatDoor
open Go Go.Ab
attribute [local irreducible] vc
def za (k:Int):Bool:=decide (1<=k)&&decide (k<=7)
theorem BT (k:Int):ae Tryz.prog aq 38 [.int .i64 k] (.bool (za k)):=by
 unfold za
 by_cases h1:1<=k
 ·rw[decide_eq_true h1,Wb]
  refine ae.intro Q38.2 (by simp[Q38]) ?_
  simp(disch:=try exact dI) only[Q38,push_cast,seval]
 ·rw[decide_eq_false h1,Wc]
  refine ae.intro Q38.2 (by simp[Q38]) ?_
  simp(disch:=try exact dI) only[Q38,push_cast,seval]
def sL (t:Typ)(n:Int):Int:=if gZ n=false then 2 else if ¬ FV 4 t=0 then 18 else if pl t=false then 18 else 0
theorem J6 (t:Typ)(n:Int)(ht:bt 4 t)(hn:aP 4 t)(hf:t.fields.length<=1000000):ae Tryz.prog aq 17 [t.pv,.int .i64 n] (.int .i64 (sL t n)):=by
 have h47:=tQ n
 have h48:=NH 4 t (by omega) ht hn
 have h49:=Qm t hf
 simp only[sL]
 generalize gZ n=b at *
 generalize FV 4 t=z at *
 generalize pl t=q at *
 obtain⟨k,m,M,s,w,e,f⟩:=t
 simp only[Vd] at h48 h49 ⊢
 refine ae.intro Q17.2 (by simp[Q17]) ?_
 cases b with
 | false=>
   simp(disch:=try exact dI) only[Q17,push_cast,seval]
   refine ab.pure h47 rfl ?_
   exact qsZ
 | true=>
 rw[if_neg (show ¬ true=false by decide)]
 by_cases hz:z=0
 ·subst hz
  rw[if_neg (show ¬ ¬ (0:Int)=0 by decide)]
  simp(disch:=try exact dI) only[Q17,push_cast,seval]
  refine ab.pure h47 rfl ?_
  refine zgZ ?_
  refine ab.pure h48 rfl ?_
  refine zgZ ?_
  refine ab.pure h49 rfl ?_
  cases q with
  | false=>simp(disch:=try exact dI) only[push_cast,seval]
  | true=>simp(disch:=try exact dI) only[push_cast,seval]
 ·rw[if_pos hz]
  simp(disch:=try exact dI) only[Q17,push_cast,seval]
  refine ab.pure h47 rfl ?_
  refine zgZ ?_
  refine ab.pure h48 rfl ?_
  simp(disch:=try exact dI) only[hz,push_cast,seval]
theorem EO (g:TFd):rI g=!(za g.typ.kind):=by
 unfold rI za
 by_cases h1:g.typ.kind<1
 ·rw[decide_eq_true h1,decide_eq_false (show ¬ 1<=g.typ.kind by omega)];rfl
 ·rw[decide_eq_false h1,decide_eq_true (show 1<=g.typ.kind by omega)]
  by_cases h2:7<g.typ.kind
  ·rw[decide_eq_true h2,decide_eq_false (show ¬ g.typ.kind<=7 by omega)];rfl
  ·rw[decide_eq_false h2,decide_eq_true (show g.typ.kind<=7 by omega)];rfl
theorem PH (t:Typ)(n:Int)(ht:bt 4 t)(hn:aP 4 t)(hf:t.fields.length<=1000000):ae Tryz.prog aq 18 [t.pv,.int .i64 n] (.int .i64 (sL t n)):=by
 have h50:=Ph n
 have h51:=NG 4 t (by omega) ht hn
 simp only[sL,uU]
 generalize eh n=b at *
 generalize FV 4 t=z at *
 generalize hq:pl t=q
 obtain⟨k,m,M,s,w,e,f⟩:=t
 simp only[Typ.fields] at hf
 simp only[pl] at hq
 simp only[Vd] at h51 ⊢
 refine ae.intro Q18.2 (by simp[Q18]) ?_
 cases b with
 | false=>
   simp(disch:=try exact dI) only[Q18,push_cast,seval]
   refine ab.pure h50 rfl ?_
   exact qsZ
 | true=>
 rw[if_neg (show ¬ true=false by decide)]
 by_cases hz:z=0
 ·subst hz
  rw[if_neg (show ¬ ¬ (0:Int)=0 by decide)]
  by_cases hk:k=9
  ·by_cases h0:0<f.length
   ·have h0I:¬ (f.length:Int)=0:=by omega
    rw[decide_eq_true hk,decide_eq_true h0,Wb,Wb] at hq
    obtain⟨R,hR⟩:∃ R,R=f.any rI:=⟨_,rfl⟩
    rw[<- hR] at hq
    subst hq
    simp(disch:=try exact dI) only[Q18,push_cast,seval]
    refine ab.pure h50 rfl ?_
    refine zgZ ?_
    refine ab.pure h51 rfl ?_
    simp(disch:=try exact dI) only[hk,h0I,push_cast,seval]
    refine ap ([]) (fun i:Nat=>[(5,.pv (.int .i64 (i:Int)))]) (fun _=>[]) (fun i=>i<=f.length/\R=(f.drop i).any rI) (fun i=>f.length - i) (0) ?_;intro e0 σ0 n0 h0;simp(disch:=try exact dI) only[push_cast,seval] at h0;obtain⟨rfl,rfl,rfl⟩:=h0;refine⟨?_,?_,?_⟩
    ·exact qsZ
    ·exact⟨by omega,by simpa using hR⟩
    rintro i ⟨hi,hr⟩
    by_cases hlt:i<f.length
    ·have hltI:(i:Int)<(f.length:Int):=by omega
     obtain⟨g,hg⟩:∃ g,f[i]? = some g:=⟨_,List.getElem?_eq_getElem hlt⟩
     rw[ja hg,EO] at hr
     have hs:=BT g.typ.kind
     obtain⟨n',nm',nd',⟨k',m',M',s',w',e',f'⟩,d'⟩:=g
     simp only[TFd.typ,Typ.kind] at hr hs
     generalize za k'=q at hr hs
     simp(disch:=try exact dI) only[hg,Option.map_some,U7,Vd,ag,push_cast,seval]
     refine ab.pure hs rfl ?_
     cases q with
     | false=>
       obtain rfl:R=true:=by simpa using hr
       exact qsZ
     | true=>
       refine zgZ ?_
       exact⟨i+1,aI qsZ,⟨by omega,by simpa using hr⟩,by omega⟩
    ·obtain rfl:i=f.length:=by omega
     rw[List.drop_length,List.any_nil] at hr
     subst hr
     simp(disch:=try exact dI) only[Int.lt_irrefl,push_cast,seval]
   ·have h0I:(f.length:Int)=0:=by omega
    rw[decide_eq_false h0,Wc,Bool.and_false] at hq
    subst hq
    simp(disch:=try exact dI) only[Q18,push_cast,seval]
    refine ab.pure h50 rfl ?_
    refine zgZ ?_
    refine ab.pure h51 rfl ?_
    simp(disch:=try exact dI) only[hk,h0I,push_cast,seval]
  ·rw[decide_eq_false hk,Wc] at hq
   subst hq
   simp(disch:=try exact dI) only[Q18,push_cast,seval]
   refine ab.pure h50 rfl ?_
   refine zgZ ?_
   refine ab.pure h51 rfl ?_
   simp(disch:=try exact dI) only[hk,push_cast,seval]
 ·rw[if_pos hz]
  simp(disch:=try exact dI) only[Q18,push_cast,seval]
  refine ab.pure h50 rfl ?_
  refine zgZ ?_
  refine ab.pure h51 rfl ?_
  simp(disch:=try exact dI) only[hz,push_cast,seval]
theorem IV {n:Nat}{t:Typ}{x:Val}{p:List UInt8}(h:aO (n+1) t x p=[]):x.kind=t.kind/\aE x=true:=by
 rw[ba] at h
 by_cases a:t.kind<1\/10<t.kind\/¬ x.kind=t.kind
 ·rw[bN a] at h;cases h
 ·cases b:aE x with
  | false=>rw[eC a b] at h;cases h
  | true=>exact⟨WD fun hh=>a (.inr (.inr hh)),rfl⟩
theorem tl {a b:Int}{p:List UInt8}{n:Int}(h:kB a b p n=[]):a<=n/\n<=b:=by
 unfold kB at h
 by_cases c:n<a\/b<n
 ·rw[if_pos c] at h;cases h
 ·omega
structure FitS (t:Typ)(v:Val):Prop where
 kd:v.kind=t.kind
 fm:aE v=true
 nm:t.kind=2\/t.kind=6\/t.kind=7\/t.kind=3->t.min<=v.num/\v.num<=t.max
 sc:t.kind=3->v.scale=t.scale
 wd:t.kind=4->0<t.words.length->(t.words.any fun x=>decide (x=v.text))=true
 tx:t.kind=5\/t.kind=4/\t.words.length=0->t.min<=(v.text.length:Int)/\(v.text.length:Int)<=t.max
theorem vD {a b n:Int}{p:List UInt8}(h:a<=n/\n<=b):kB a b p n=[]:=if_neg (by omega)
theorem pm {n:Nat}{t:Typ}{v:Val}(hk:1<=t.kind/\t.kind<=7)(h:FitS t v)(p:List UInt8):aO (n+1) t v p=[]:=by
 have a:¬ (t.kind<1\/10<t.kind\/¬ v.kind=t.kind):=fun q=>q.elim (by omega) fun q=>q.elim (by omega) fun q=>q h.kd
 rw[ba]
 have e:t.kind=1\/(t.kind=2\/t.kind=6\/t.kind=7)\/t.kind=3\/t.kind=4\/t.kind=5:=by omega
 rcases e with e | e | e | e | e
 ·exact nT a h.fm e
 ·rw[fL a h.fm e];exact vD (h.nm (by omega))
 ·rw[mb a h.fm e (h.sc e)];exact vD (h.nm (by omega))
 ·by_cases hw:0<t.words.length
  ·exact nS a h.fm e hw (h.wd e hw)
  ·rw[eB a h.fm (.inl e) (fun _=>by omega)];exact vD (h.tx (.inr ⟨e,by omega⟩))
 ·rw[eB a h.fm (.inr e) (fun q=>by omega)];exact vD (h.tx (.inl e))
theorem vO {n:Nat}{t:Typ}{v:Val}{p:List UInt8}(hk:1<=t.kind/\t.kind<=7)(h:aO (n+1) t v p=[]):FitS t v:=by
 obtain⟨h1,h2⟩:=IV h
 have a:¬ (t.kind<1\/10<t.kind\/¬ v.kind=t.kind):=fun q=>q.elim (by omega) fun q=>q.elim (by omega) fun q=>q h1
 rw[ba] at h
 have hsc:t.kind=3->v.scale=t.scale:=fun e=>WD fun hs=>by rw[ma a h2 e hs] at h;cases h
 refine⟨h1,h2,fun e=>?_,hsc,fun e hw=>?_,fun e=>?_⟩
 ·by_cases e3:t.kind=3
  ·rw[mb a h2 e3 (hsc e3)] at h;exact tl h
  ·rw[fL a h2 (by omega)] at h;exact tl h
 ·cases ha:(t.words.any fun x=>decide (x=v.text)) with
  | true=>rfl
  | false=>rw[jU a h2 e hw ha] at h;cases h
 ·rw[eB a h2 (by omega) (fun q=>by omega)] at h;exact tl h
theorem E2 {x:Val}(h:jg 0 (ck 9 1 x)=0):bw x=false/\bn x=true/\be x=0:=by
 have hs:bc 0 (1,x)=0:=by
  rw[ck,jg] at h
  by_cases h0:bc 0 (1,x)=0
  ·exact h0
  ·rw[if_neg h0] at h;exact absurd h h0
 unfold bc at hs
 rw[if_neg (by decide),if_neg (show ¬ (8:Int)<((1:Int),x).1 from (by decide:¬ (8:Int)<1))] at hs
 simp only at hs
 cases hn:bw x with
 | true=>rw[hn,if_pos rfl] at hs;cases hs
 | false=>
   rw[hn,if_neg (by decide)] at hs
   by_cases hk:x.kind<1\/10<x.kind
   ·rw[if_pos hk] at hs;cases hs
   ·rw[if_neg hk] at hs
    cases hu:bn x with
    | false=>rw[hu,if_pos rfl] at hs;cases hs
    | true=>rw[hu,if_neg (by decide)] at hs;exact⟨rfl,rfl,hs⟩
theorem HH {n a b:Int}(h:eV n a b=0):a<=n/\n<=b:=by
 unfold eV at h
 by_cases c:n<a\/b<n
 ·rw[if_pos c] at h;cases h
 ·omega
theorem Aj {x:Val}(hk:1<=x.kind/\x.kind<=7)(h:jg 0 (ck 9 1 x)=0):aE x=true:=by
 obtain⟨_,hu,hr⟩:=E2 h
 obtain⟨k,n,s,t,l,f⟩:=x
 simp only[Val.kind] at hk
 have e:k=1\/k=2\/k=3\/k=4\/k=5\/k=6\/k=7:=by omega
 rcases e with rfl | rfl | rfl | rfl | rfl | rfl | rfl
 ·have:=HH (show eV n 0 1=0 from hr)
  simp[bn] at hu
  simp[aE,hu];omega
 ·simp[bn] at hu;simp[aE,hu]
 ·simp[bn] at hu;simp[aE,hu]
 ·simp[bn] at hu
  have hv:Lib.validD t=true:=by
   have hr':(if dm t.length 1024 5=0 then (if Lib.validD t=true then (0:Int) else 16) else dm t.length 1024 5)=0:=hr
   by_cases c:dm t.length 1024 5=0
   ·rw[if_pos c] at hr'
    cases hv:Lib.validD t with
    | true=>rfl
    | false=>rw[hv,if_neg (by decide)] at hr';cases hr'
   ·rw[if_neg c] at hr';exact absurd hr' c
  simp[aE,hu,hv]
 ·simp[bn] at hu;simp[aE,hu]
 ·simp[bn] at hu;simp[aE,hu]
 ·simp[bn] at hu;simp[aE,hu]
theorem N2 {n:Nat}{t:Typ}{x:Val}(hk:1<=t.kind/\t.kind<=7)(h:accB n t x=true):FitS t x:=by
 unfold accB at h
 rw[Vr,decide_eq_true_eq] at h
 obtain⟨hc,hh⟩:=h
 cases n with
 | zero=>rw[bp] at hh;cases hh
 | succ n=>
   rw[bp,Vr,decide_eq_true_eq] at hh
   obtain⟨h1,h2⟩:=hh
   have hfm:=Aj (by omega) hc
   unfold rt at h2
   refine⟨h1,hfm,fun e=>?_,fun e=>?_,fun e hw=>?_,fun e=>?_⟩
   ·rw[if_pos e,Ow,Vr,inB,Vr,decide_eq_true_eq,decide_eq_true_eq] at h2
    exact h2.1
   ·rw[if_pos (by omega),Ow,Vr,decide_eq_true_eq] at h2
    exact h2.2
   ·rw[if_neg (by omega),if_pos e,O7,if_pos hw] at h2
    exact h2
   ·by_cases e5:t.kind=5
    ·rw[if_neg (by omega),if_neg (by omega),if_pos e5,inB,Vr,decide_eq_true_eq,decide_eq_true_eq] at h2
     exact h2
    ·have e4:t.kind=4/\t.words.length=0:=by omega
     rw[if_neg (by omega),if_pos e4.1,O7,if_neg (by omega),inB,Vr,decide_eq_true_eq,decide_eq_true_eq] at h2
     exact h2
theorem qS {v:Val}(h:1<=v.kind):bw v=false:=by
 obtain⟨k,n,s,t,l,f⟩:=v
 simp only[Val.kind] at h
 show (decide (k=0)&&(decide (n=0)&&(decide (s=0)&&(decide (t=[])&&(decide (l.length=0)&&decide (f.length=0))))))=false
 rw[decide_eq_false (by omega),Wc]
theorem rx {n:Nat}{rec:Int->Typ->Int×Int}:∀ (ps:List TFd) (l:Int),(dK n rec l ps).1=0->∀ g∈ps,nq n g=false
 | [],_,_,_,h=>by cases h
 | x::r,l,h,t,ht=>by
   rw[dK] at h
   by_cases h0:(rec l x.typ).1=0
   ·rw[if_pos h0] at h
    by_cases hd:nq n x=true
    ·rw[if_pos hd] at h;exact absurd h (show ¬ (18:Int)=0 by decide)
    ·rw[if_neg hd] at h
     rcases List.mem_cons.1 ht with rfl | ht
     ·simpa using hd
     ·exact rx r _ h t ht
   ·rw[if_neg h0] at h;exact absurd h h0
theorem Ex {k:Int}{b:List TFd}{g:TFd}(h:dh k b g=0):∀ y∈b,y.name≠g.name:=by
 obtain⟨n,nm,nd,t,d⟩:=g
 intro y hy e
 rw[iS] at h
 have ha:b.any (j1 n nm)=true:=List.any_eq_true.2 ⟨y,hy,by have e':y.name=nm:=e;simp[j1,e']⟩
 by_cases h1:bP nm=false
 ·rw[if_pos h1] at h;cases h
 rw[if_neg h1] at h
 by_cases h2:inB n 1 9999=false
 ·rw[if_pos h2] at h;cases h
 rw[if_neg h2,if_pos ha] at h;cases h
theorem zy {k:Int}{b:List TFd}{g:TFd}(h:dh k b g=0):1<=g.need/\g.need<=3:=by
 obtain⟨n,nm,nd,t,d⟩:=g
 rw[iS] at h
 by_cases h1:bP nm=false
 ·rw[if_pos h1] at h;cases h
 rw[if_neg h1] at h
 by_cases h2:inB n 1 9999=false
 ·rw[if_pos h2] at h;cases h
 rw[if_neg h2] at h
 by_cases h3:b.any (j1 n nm)=true
 ·rw[if_pos h3] at h;cases h
 rw[if_neg h3] at h
 unfold gC at h
 by_cases h4:inB nd 1 3=false
 ·rw[if_pos h4] at h;cases h
 have h5:inB nd 1 3=true:=by simpa using h4
 show 1<=nd/\nd<=3
 simpa[inB] using h5
theorem jZ {k:Int}:∀ (f b:List TFd),bf k b f=0->(f.map TFd.name).Nodup/\∀ x∈f,∀ y∈b,y.name≠x.name
 | [],b,_=>⟨List.nodup_nil,fun x hx=>by cases hx⟩
 | g::r,b,h=>by
   rw[bf] at h
   by_cases h0:dh k b g=0
   ·rw[if_pos h0] at h
    obtain⟨i1,i2⟩:=jZ r (b++[g]) h
    refine⟨?_,fun x hx=>?_⟩
    ·rw[List.map_cons,List.nodup_cons]
     refine⟨fun hm=>?_,i1⟩
     obtain⟨y,hy,e⟩:=List.mem_map.1 hm
     exact i2 y hy g (by simp) e.symm
    ·rcases List.mem_cons.1 hx with rfl | hx
     ·exact Ex h0
     ·exact fun y hy=>i2 x hx y (List.mem_append_left _ hy)
   ·rw[if_neg h0] at h;exact absurd h h0
structure CellT (g:TFd):Prop where
 own:fv g.typ=0
 kd:1<=g.typ.kind/\g.typ.kind<=7
 ty:eK 1 g.typ
 nml:g.name.length<=100
 nd:1<=g.need/\g.need<=3
 dft:g.need=3->∃ x r,g.dflt=x::r/\FitS g.typ x/\x.ok
structure RTy (t:Typ):Prop where
 k9:t.kind=9
 pos:0<t.fields.length
 len:t.fields.length<=6
 fld:∀ g∈t.fields,CellT g
 nm:(t.fields.map TFd.name).Nodup
theorem Ei {t:Typ}(h:pl t=true):t.kind=9/\0<t.fields.length/\∀ g∈t.fields,1<=g.typ.kind/\g.typ.kind<=7:=by
 obtain⟨k,m,M,s,w,e,f⟩:=t
 simp only[pl,Vr,decide_eq_true_eq,Bool.not_eq_true'] at h
 refine⟨h.1,h.2.1,fun g hg=>?_⟩
 have:=List.any_eq_false.1 h.2.2 g hg
 rw[EO] at this
 simp[za] at this
 exact this
theorem BZ {t:Typ}{n:Int}(h:sL t n=0)(ht:t.ok)(hw:aP 4 t)(hty:eK 3 t):RTy t/\gZ n=true:=by
 unfold sL at h
 by_cases h1:gZ n=false
 ·rw[if_pos h1] at h;cases h
 rw[if_neg h1] at h
 by_cases h2:¬ FV 4 t=0
 ·rw[if_pos h2] at h;cases h
 rw[if_neg h2] at h
 by_cases h3:pl t=false
 ·rw[if_pos h3] at h;cases h
 have h0:FV 4 t=0:=WD h2
 obtain⟨k9,hp,hs⟩:=Ei (by simpa using h3)
 have hc:(dL 4 4096 t).1=0:=by
  unfold FV at h0
  by_cases c:(dL 4 4096 t).1=0
  ·exact c
  ·rw[if_neg c] at h0;exact absurd h0 c
 have htv:=fS 4 4096 t hw hc
 obtain⟨k,m,M,s,w,e,f⟩:=t
 simp only[Typ.kind,Typ.fields] at k9 hp hs
 subst k9
 have hw':=hw
 simp only[aP] at hw
 rw[dL,if_pos htv.1,if_pos rfl] at hc
 rw[Vc] at ht
 have hnd:=(jZ f [] (bE htv.1).2.2.2).1
 refine⟨⟨rfl,hp,hw.2.1,fun g hg=>?_,hnd⟩,by simpa using h1⟩
 have hgo:=ht.2.2.2.2.2.2.2.2.2 g hg
 have hgt:=hty.2.2.2 g hg
 have hown:fv g.typ=0:=by
  have:=htv.2.2 (.inl rfl) g hg
  obtain⟨n',nm',nd',⟨k',m',M',s',w',e',f'⟩,d'⟩:=g
  exact this.1
 obtain⟨b,hb⟩:=bI f [] (bE htv.1).2.2.2 g hg
 refine⟨hown,hs g hg,⟨hgt.2.1,hgt.2.2.1,fun _ _=>trivial,fun f hf=>⟨(hgt.2.2.2.2 f hf).1,trivial⟩⟩,hgt.1,zy hb,fun h3=>?_⟩
 have hd:=rx f _ hc g hg
 obtain⟨n',nm',nd',t',d'⟩:=g
 simp only[TFd.need] at h3
 subst h3
 replace hd:(decide ((3:Int)=3)&&!(pg (accB 3 t') d'))=false:=hd
 rw[decide_eq_true rfl,Wb] at hd
 cases d' with
 | nil=>simp[pg] at hd
 | cons x r=>
   have hacc:accB 3 t' x=true:=by simpa[pg] using hd
   rw[U6] at hgo
   exact⟨x,r,rfl,N2 (hs _ hg) hacc,hgo.2.2.2.2.2 x (by simp)⟩
end Go.Proofs.YtbaaokocnegdoaaGreatDoor
namespace Go.Ab
open Go
theorem A1 (n:Int)(h0:0<=n):∀ k:Nat,n<bV ((k:Int)+1)->∃ y:Int,1<=y/\y<=k/\bV y<=n/\n<bV (y+1)
 | 0,h=>absurd h (by rw[show bV (((0:Nat):Int)+1)=0 from rfl];omega)
 | k+1,h=>by
   by_cases hk:bV ((k:Int)+1)<=n
   ·exact⟨(k:Int)+1,by omega,by omega,hk,by simpa using h⟩
   ·obtain⟨y,a,b,c,d⟩:=A1 n h0 k (by omega)
    exact⟨y,a,by omega,c,d⟩
theorem vL (y r:Int)(h0:0<=r):∀ k:Nat,r<cb y k->∃ m:Nat,1<=m/\m<=k/\cb y (m - 1)<=r/\r<cb y m
 | 0,h=>absurd h (by rw[show cb y 0=0 from rfl];omega)
 | k+1,h=>by
   by_cases hk:cb y k<=r
   ·exact⟨k+1,by omega,by omega,hk,h⟩
   ·obtain⟨m,a,b,c,d⟩:=vL y r h0 k (by omega)
    exact⟨m,a,by omega,c,d⟩
theorem Kx {n:Int}(h0:0<=n)(h1:n<=3652058):∃ y m d,DateOk y m d/\n=dT y m d:=by
 have hb:bV (((9999:Nat):Int)+1)=3652059:=by decide
 obtain⟨y,y1,y2,b1,b2⟩:=A1 n h0 9999 (by rw[hb];omega)
 have hs:=pA y
 have h12:=JV y
 obtain⟨m,m1,m2,c1,c2⟩:=vL y (n - bV y) (by omega) 12 (by omega)
 have hm:cb y m=cb y (m - 1)+mdI y m:=by
  obtain⟨k,rfl⟩:∃ k,m=k+1:=⟨m - 1,by omega⟩
  simp[cb]
 exact⟨y,m,n - bV y - cb y (m - 1)+1,⟨y1,by simpa using y2,m1,m2,by omega,by omega⟩,by unfold dT;omega⟩
