/- A part of the proof. -/
import Derived.Test.YtbaaokocnegdoaaGreatDoorDeVUh
import Derived.Test.YtbaaokocnegdoaaGreatDoorDeWS
import Derived.Shelf.SlGeneric
import Derived.Shelf.SlSortCmp.WholeK
import Derived.Ground.SlsfProg
import Derived.Test.YtbaaokocnegdoaaGreatDoorProg
import Derived.WalkKit
import Derived.WalkMore
import Derived.Deep.Draws
set_option linter.unusedVariables false
set_option linter.unusedSimpArgs false
set_option maxHeartbeats 16000000
set_option maxRecDepth 100000
namespace Go.Proofs.YtbaaokocnegdoaaGreatDoor
open Go Go.Ab
attribute [local irreducible] vc
def yr (k:Int):Bool:=decide (1<=k)&&decide (k<=7)
theorem Bt (k:Int):ak Tryz.prog aq 38 [.int .i64 k] (.bool (yr k)):=by
 unfold yr
 by_cases h1:1<=k
 ·rw[decide_eq_true h1,Bool.true_and]
  refine ak.intro Q38.2 (by simp[Q38]) ?_
  simp(disch:=try exact dI) only[Q38,push_cast,seval]
 ·rw[decide_eq_false h1,Bool.false_and]
  refine ak.intro Q38.2 (by simp[Q38]) ?_
  simp(disch:=try exact dI) only[Q38,push_cast,seval]
def FM (t:Typ)(n:Int):Int:=if gy n=false then 2 else if ¬ FL 4 t=0 then 18 else if oq t=false then 18 else 0
theorem PT (t:Typ)(n:Int)(ht:br 4 t)(hn:aL 4 t)(hf:t.fields.length<=1000000):ak Tryz.prog aq 17 [t.pv,.int .i64 n] (.int .i64 (FM t n)):=by
 have h47:=DD n
 have h48:=NX 4 t (by omega) ht hn
 have h49:=Qy t hf
 simp only[FM]
 generalize gy n=b at *
 generalize FL 4 t=z at *
 generalize oq t=q at *
 obtain⟨k,m,M,s,w,e,f⟩:=t
 simp only[Typ.pv_mk] at h48 h49 ⊢
 refine ak.intro Q17.2 (by simp[Q17]) ?_
 cases b with
 | false=>
   simp(disch:=try exact dI) only[Q17,push_cast,seval]
   refine ab.pure h47 rfl ?_
   exact qsZ
 | true=>
 rw[if_neg (show ¬ true=false by decide)]
 by_cases hz:z=0
 ·subst hz
  rw[if_neg (show ¬ ¬ (0:Int)=0 by decide)]
  simp(disch:=try exact dI) only[Q17,push_cast,seval]
  refine ab.pure h47 rfl ?_
  refine zgZ ?_
  refine ab.pure h48 rfl ?_
  refine zgZ ?_
  refine ab.pure h49 rfl ?_
  cases q with
  | false=>simp(disch:=try exact dI) only[push_cast,seval]
  | true=>simp(disch:=try exact dI) only[push_cast,seval]
 ·rw[if_pos hz]
  simp(disch:=try exact dI) only[Q17,push_cast,seval]
  refine ab.pure h47 rfl ?_
  refine zgZ ?_
  refine ab.pure h48 rfl ?_
  simp(disch:=try exact dI) only[hz,push_cast,seval]
theorem Ez (g:TFd):qT g=!(yr g.typ.kind):=by
 unfold qT yr
 by_cases h1:g.typ.kind<1
 ·rw[decide_eq_true h1,decide_eq_false (show ¬ 1<=g.typ.kind by omega)];rfl
 ·rw[decide_eq_false h1,decide_eq_true (show 1<=g.typ.kind by omega)]
  by_cases h2:7<g.typ.kind
  ·rw[decide_eq_true h2,decide_eq_false (show ¬ g.typ.kind<=7 by omega)];rfl
  ·rw[decide_eq_false h2,decide_eq_true (show g.typ.kind<=7 by omega)];rfl
theorem PS (t:Typ)(n:Int)(ht:br 4 t)(hn:aL 4 t)(hf:t.fields.length<=1000000):ak Tryz.prog aq 18 [t.pv,.int .i64 n] (.int .i64 (FM t n)):=by
 have h50:=Ps n
 have h51:=NW 4 t (by omega) ht hn
 simp only[FM,Kh]
 generalize mc n=b at *
 generalize FL 4 t=z at *
 generalize hq:oq t=q
 obtain⟨k,m,M,s,w,e,f⟩:=t
 simp only[Typ.fields] at hf
 simp only[oq] at hq
 simp only[Typ.pv_mk] at h51 ⊢
 refine ak.intro Q18.2 (by simp[Q18]) ?_
 cases b with
 | false=>
   simp(disch:=try exact dI) only[Q18,push_cast,seval]
   refine ab.pure h50 rfl ?_
   exact qsZ
 | true=>
 rw[if_neg (show ¬ true=false by decide)]
 by_cases hz:z=0
 ·subst hz
  rw[if_neg (show ¬ ¬ (0:Int)=0 by decide)]
  by_cases hk:k=9
  ·by_cases h0:0<f.length
   ·have h0I:¬ (f.length:Int)=0:=by omega
    rw[decide_eq_true hk,decide_eq_true h0,Bool.true_and,Bool.true_and] at hq
    obtain⟨R,hR⟩:∃ R,R=f.any qT:=⟨_,rfl⟩
    rw[<- hR] at hq
    subst hq
    simp(disch:=try exact dI) only[Q18,push_cast,seval]
    refine ab.pure h50 rfl ?_
    refine zgZ ?_
    refine ab.pure h51 rfl ?_
    simp(disch:=try exact dI) only[hk,h0I,push_cast,seval]
    refine ap ([]) (fun i:Nat=>[(5,.pv (.int .i64 (i:Int)))]) (fun _=>[]) (fun i=>i<=f.length/\R=(f.drop i).any qT) (fun i=>f.length - i) (0) ?_;intro e0 σ0 n0 h0;simp(disch:=try exact dI) only[push_cast,seval] at h0;obtain⟨rfl,rfl,rfl⟩:=h0;refine⟨?_,?_,?_⟩
    ·exact qsZ
    ·exact⟨by omega,by simpa using hR⟩
    rintro i ⟨hi,hr⟩
    by_cases hlt:i<f.length
    ·have hltI:(i:Int)<(f.length:Int):=by omega
     obtain⟨g,hg⟩:∃ g,f[i]? = some g:=⟨_,List.getElem?_eq_getElem hlt⟩
     rw[iC hg,Ez] at hr
     have hs:=Bt g.typ.kind
     obtain⟨n',nm',nd',⟨k',m',M',s',w',e',f'⟩,d'⟩:=g
     simp only[TFd.typ,Typ.kind] at hr hs
     generalize yr k'=q at hr hs
     simp(disch:=try exact dI) only[hg,Option.map_some,TFd.pv_mk,Typ.pv_mk,ag,push_cast,seval]
     refine ab.pure hs rfl ?_
     cases q with
     | false=>
       obtain rfl:R=true:=by simpa using hr
       exact qsZ
     | true=>
       refine zgZ ?_
       exact⟨i+1,aK qsZ,⟨by omega,by simpa using hr⟩,by omega⟩
    ·obtain rfl:i=f.length:=by omega
     rw[List.drop_length,List.any_nil] at hr
     subst hr
     simp(disch:=try exact dI) only[Int.lt_irrefl,push_cast,seval]
   ·have h0I:(f.length:Int)=0:=by omega
    rw[decide_eq_false h0,Bool.false_and,Bool.and_false] at hq
    subst hq
    simp(disch:=try exact dI) only[Q18,push_cast,seval]
    refine ab.pure h50 rfl ?_
    refine zgZ ?_
    refine ab.pure h51 rfl ?_
    simp(disch:=try exact dI) only[hk,h0I,push_cast,seval]
  ·rw[decide_eq_false hk,Bool.false_and] at hq
   subst hq
   simp(disch:=try exact dI) only[Q18,push_cast,seval]
   refine ab.pure h50 rfl ?_
   refine zgZ ?_
   refine ab.pure h51 rfl ?_
   simp(disch:=try exact dI) only[hk,push_cast,seval]
 ·rw[if_pos hz]
  simp(disch:=try exact dI) only[Q18,push_cast,seval]
  refine ab.pure h50 rfl ?_
  refine zgZ ?_
  refine ab.pure h51 rfl ?_
  simp(disch:=try exact dI) only[hz,push_cast,seval]
theorem Jb {n:Nat}{t:Typ}{x:Val}{p:List UInt8}(h:cx (n+1) t x p=[]):x.kind=t.kind/\aG x=true:=by
 rw[fP] at h
 by_cases a:t.kind<1\/10<t.kind\/¬ x.kind=t.kind
 ·rw[fQ a] at h;cases h
 ·cases b:aG x with
  | false=>rw[p9 a b] at h;cases h
  | true=>exact⟨Decidable.byContradiction fun hh=>a (.inr (.inr hh)),rfl⟩
theorem sE {a b:Int}{p:List UInt8}{n:Int}(h:mh a b p n=[]):a<=n/\n<=b:=by
 unfold mh at h
 by_cases c:n<a\/b<n
 ·rw[if_pos c] at h;cases h
 ·omega
structure FitS (t:Typ)(v:Val):Prop where
 kd:v.kind=t.kind
 fm:aG v=true
 nm:t.kind=2\/t.kind=6\/t.kind=7\/t.kind=3->t.min<=v.num/\v.num<=t.max
 sc:t.kind=3->v.scale=t.scale
 wd:t.kind=4->0<t.words.length->(t.words.any fun x=>decide (x=v.text))=true
 tx:t.kind=5\/t.kind=4/\t.words.length=0->t.min<=(v.text.length:Int)/\(v.text.length:Int)<=t.max
theorem Il {n:Nat}{t:Typ}{v:Val}{p:List UInt8}(hk:1<=t.kind/\t.kind<=7)(h:cx (n+1) t v p=[]):FitS t v:=by
 obtain⟨h1,h2⟩:=Jb h
 have a:¬ (t.kind<1\/10<t.kind\/¬ v.kind=t.kind):=fun q=>q.elim (by omega) fun q=>q.elim (by omega) fun q=>q h1
 rw[fP] at h
 have hsc:t.kind=3->v.scale=t.scale:=fun e=>Decidable.byContradiction fun hs=>by rw[lf a h2 e hs] at h;cases h
 refine⟨h1,h2,fun e=>?_,hsc,fun e hw=>?_,fun e=>?_⟩
 ·by_cases e3:t.kind=3
  ·rw[p8 a h2 e3 (hsc e3)] at h;exact sE h
  ·rw[g9 a h2 (by omega)] at h;exact sE h
 ·cases ha:(t.words.any fun x=>decide (x=v.text)) with
  | true=>rfl
  | false=>rw[jo a h2 e hw ha] at h;cases h
 ·rw[iX a h2 (by omega) (fun q=>by omega)] at h;exact sE h
theorem EP {x:Val}(h:iE 0 (cf 9 1 x)=0):bf x=false/\bl x=true/\be x=0:=by
 have hs:aY 0 (1,x)=0:=by
  rw[cf,iE] at h
  by_cases h0:aY 0 (1,x)=0
  ·exact h0
  ·rw[if_neg h0] at h;exact absurd h h0
 unfold aY at hs
 rw[if_neg (by decide),if_neg (show ¬ (8:Int)<((1:Int),x).1 from (by decide:¬ (8:Int)<1))] at hs
 simp only at hs
 cases hn:bf x with
 | true=>rw[hn,if_pos rfl] at hs;cases hs
 | false=>
   rw[hn,if_neg (by decide)] at hs
   by_cases hk:x.kind<1\/10<x.kind
   ·rw[if_pos hk] at hs;cases hs
   ·rw[if_neg hk] at hs
    cases hu:bl x with
    | false=>rw[hu,if_pos rfl] at hs;cases hs
    | true=>rw[hu,if_neg (by decide)] at hs;exact⟨rfl,rfl,hs⟩
theorem HR {n a b:Int}(h:eB n a b=0):a<=n/\n<=b:=by
 unfold eB at h
 by_cases c:n<a\/b<n
 ·rw[if_pos c] at h;cases h
 ·omega
theorem zx {x:Val}(hk:1<=x.kind/\x.kind<=7)(h:iE 0 (cf 9 1 x)=0):aG x=true:=by
 obtain⟨_,hu,hr⟩:=EP h
 obtain⟨k,n,s,t,l,f⟩:=x
 simp only[Val.kind] at hk
 have e:k=1\/k=2\/k=3\/k=4\/k=5\/k=6\/k=7:=by omega
 rcases e with rfl | rfl | rfl | rfl | rfl | rfl | rfl
 ·have:=HR (show eB n 0 1=0 from hr)
  simp[bl] at hu
  simp[aG,hu];omega
 ·simp[bl] at hu;simp[aG,hu]
 ·simp[bl] at hu;simp[aG,hu]
 ·simp[bl] at hu
  have hv:Lib.validD t=true:=by
   have hr':(if cW t.length 1024 5=0 then (if Lib.validD t=true then (0:Int) else 16) else cW t.length 1024 5)=0:=hr
   by_cases c:cW t.length 1024 5=0
   ·rw[if_pos c] at hr'
    cases hv:Lib.validD t with
    | true=>rfl
    | false=>rw[hv,if_neg (by decide)] at hr';cases hr'
   ·rw[if_neg c] at hr';exact absurd hr' c
  simp[aG,hu,hv]
 ·simp[bl] at hu;simp[aG,hu]
 ·simp[bl] at hu;simp[aG,hu]
 ·simp[bl] at hu;simp[aG,hu]
theorem Oj {n:Nat}{t:Typ}{x:Val}(hk:1<=t.kind/\t.kind<=7)(h:accB n t x=true):FitS t x:=by
 unfold accB at h
 rw[Bool.and_eq_true,decide_eq_true_eq] at h
 obtain⟨hc,hh⟩:=h
 cases n with
 | zero=>rw[bm] at hh;cases hh
 | succ n=>
   rw[bm,Bool.and_eq_true,decide_eq_true_eq] at hh
   obtain⟨h1,h2⟩:=hh
   have hfm:=zx (by omega) hc
   unfold qF at h2
   refine⟨h1,hfm,fun e=>?_,fun e=>?_,fun e hw=>?_,fun e=>?_⟩
   ·rw[if_pos e,ON,Bool.and_eq_true,inB,Bool.and_eq_true,decide_eq_true_eq,decide_eq_true_eq] at h2
    exact h2.1
   ·rw[if_pos (by omega),ON,Bool.and_eq_true,decide_eq_true_eq] at h2
    exact h2.2
   ·rw[if_neg (by omega),if_pos e,Pg,if_pos hw] at h2
    exact h2
   ·by_cases e5:t.kind=5
    ·rw[if_neg (by omega),if_neg (by omega),if_pos e5,inB,Bool.and_eq_true,decide_eq_true_eq,decide_eq_true_eq] at h2
     exact h2
    ·have e4:t.kind=4/\t.words.length=0:=by omega
     rw[if_neg (by omega),if_pos e4.1,Pg,if_neg (by omega),inB,Bool.and_eq_true,decide_eq_true_eq,decide_eq_true_eq] at h2
     exact h2
theorem pW {v:Val}(h:1<=v.kind):bf v=false:=by
 obtain⟨k,n,s,t,l,f⟩:=v
 simp only[Val.kind] at h
 show (decide (k=0)&&(decide (n=0)&&(decide (s=0)&&(decide (t=[])&&(decide (l.length=0)&&decide (f.length=0))))))=false
 rw[decide_eq_false (by omega),Bool.false_and]
theorem qI {n:Nat}{rec:Int->Typ->Int×Int}:∀ (ps:List TFd) (l:Int),(dA n rec l ps).1=0->∀ g∈ps,mw n g=false
 | [],_,_,_,h=>by cases h
 | x::r,l,h,t,ht=>by
   rw[dA] at h
   by_cases h0:(rec l x.typ).1=0
   ·rw[if_pos h0] at h
    by_cases hd:mw n x=true
    ·rw[if_pos hd] at h;exact absurd h (show ¬ (18:Int)=0 by decide)
    ·rw[if_neg hd] at h
     rcases List.mem_cons.1 ht with rfl | ht
     ·simpa using hd
     ·exact qI r _ h t ht
   ·rw[if_neg h0] at h;exact absurd h h0
theorem Ef {k:Int}{b:List TFd}{g:TFd}(h:cL k b g=0):∀ y∈b,y.name≠g.name:=by
 obtain⟨n,nm,nd,t,d⟩:=g
 intro y hy e
 rw[ip] at h
 have ha:b.any (jv n nm)=true:=List.any_eq_true.2 ⟨y,hy,by have e':y.name=nm:=e;simp[jv,e']⟩
 by_cases h1:bN nm=false
 ·rw[if_pos h1] at h;cases h
 rw[if_neg h1] at h
 by_cases h2:inB n 1 9999=false
 ·rw[if_pos h2] at h;cases h
 rw[if_neg h2,if_pos ha] at h;cases h
theorem yG {k:Int}{b:List TFd}{g:TFd}(h:cL k b g=0):1<=g.need/\g.need<=3:=by
 obtain⟨n,nm,nd,t,d⟩:=g
 rw[ip] at h
 by_cases h1:bN nm=false
 ·rw[if_pos h1] at h;cases h
 rw[if_neg h1] at h
 by_cases h2:inB n 1 9999=false
 ·rw[if_pos h2] at h;cases h
 rw[if_neg h2] at h
 by_cases h3:b.any (jv n nm)=true
 ·rw[if_pos h3] at h;cases h
 rw[if_neg h3] at h
 unfold ga at h
 by_cases h4:inB nd 1 3=false
 ·rw[if_pos h4] at h;cases h
 have h5:inB nd 1 3=true:=by simpa using h4
 show 1<=nd/\nd<=3
 simpa[inB] using h5
theorem jt {k:Int}:∀ (f b:List TFd),bg k b f=0->(f.map TFd.name).Nodup/\∀ x∈f,∀ y∈b,y.name≠x.name
 | [],b,_=>⟨List.nodup_nil,fun x hx=>by cases hx⟩
 | g::r,b,h=>by
   rw[bg] at h
   by_cases h0:cL k b g=0
   ·rw[if_pos h0] at h
    obtain⟨i1,i2⟩:=jt r (b++[g]) h
    refine⟨?_,fun x hx=>?_⟩
    ·rw[List.map_cons,List.nodup_cons]
     refine⟨fun hm=>?_,i1⟩
     obtain⟨y,hy,e⟩:=List.mem_map.1 hm
     exact i2 y hy g (by simp) e.symm
    ·rcases List.mem_cons.1 hx with rfl | hx
     ·exact Ef h0
     ·exact fun y hy=>i2 x hx y (List.mem_append_left _ hy)
   ·rw[if_neg h0] at h;exact absurd h h0
structure CellT (g:TFd):Prop where
 own:fj g.typ=0
 kd:1<=g.typ.kind/\g.typ.kind<=7
 ty:mE 1 g.typ
 nml:g.name.length<=100
 nd:1<=g.need/\g.need<=3
 dft:g.need=3->∃ x r,g.dflt=x::r/\FitS g.typ x/\x.ok
structure RTy (t:Typ):Prop where
 k9:t.kind=9
 pos:0<t.fields.length
 len:t.fields.length<=6
 fld:∀ g∈t.fields,CellT g
 nm:(t.fields.map TFd.name).Nodup
theorem D8 {t:Typ}(h:oq t=true):t.kind=9/\0<t.fields.length/\∀ g∈t.fields,1<=g.typ.kind/\g.typ.kind<=7:=by
 obtain⟨k,m,M,s,w,e,f⟩:=t
 simp only[oq,Bool.and_eq_true,decide_eq_true_eq,Bool.not_eq_true'] at h
 refine⟨h.1,h.2.1,fun g hg=>?_⟩
 have:=List.any_eq_false.1 h.2.2 g hg
 rw[Ez] at this
 simp[yr] at this
 exact this
theorem PH {t:Typ}{n:Int}(h:FM t n=0)(ht:t.ok)(hw:aL 4 t)(hty:mE 3 t):RTy t/\gy n=true:=by
 unfold FM at h
 by_cases h1:gy n=false
 ·rw[if_pos h1] at h;cases h
 rw[if_neg h1] at h
 by_cases h2:¬ FL 4 t=0
 ·rw[if_pos h2] at h;cases h
 rw[if_neg h2] at h
 by_cases h3:oq t=false
 ·rw[if_pos h3] at h;cases h
 have h0:FL 4 t=0:=Decidable.byContradiction h2
 obtain⟨k9,hp,hs⟩:=D8 (by simpa using h3)
 have hc:(dB 4 4096 t).1=0:=by
  unfold FL at h0
  by_cases c:(dB 4 4096 t).1=0
  ·exact c
  ·rw[if_neg c] at h0;exact absurd h0 c
 have htv:=fA 4 4096 t hw hc
 obtain⟨k,m,M,s,w,e,f⟩:=t
 simp only[Typ.kind,Typ.fields] at k9 hp hs
 subst k9
 have hw':=hw
 simp only[aL] at hw
 rw[dB,if_pos htv.1,if_pos rfl] at hc
 rw[Typ.ok_mk] at ht
 have hnd:=(jt f [] (bJ htv.1).2.2.2).1
 refine⟨⟨rfl,hp,hw.2.1,fun g hg=>?_,hnd⟩,by simpa using h1⟩
 have hgo:=ht.2.2.2.2.2.2.2.2.2 g hg
 have hgt:=hty.2.2.2 g hg
 have hown:fj g.typ=0:=by
  have:=htv.2.2 (.inl rfl) g hg
  obtain⟨n',nm',nd',⟨k',m',M',s',w',e',f'⟩,d'⟩:=g
  exact this.1
 obtain⟨b,hb⟩:=bH f [] (bJ htv.1).2.2.2 g hg
 refine⟨hown,hs g hg,⟨hgt.2.1,hgt.2.2.1,fun _ _=>trivial,fun f hf=>⟨(hgt.2.2.2.2 f hf).1,trivial⟩⟩,hgt.1,yG hb,fun h3=>?_⟩
 have hd:=qI f _ hc g hg
 obtain⟨n',nm',nd',t',d'⟩:=g
 simp only[TFd.need] at h3
 subst h3
 replace hd:(decide ((3:Int)=3)&&!(oj (accB 3 t') d'))=false:=hd
 rw[decide_eq_true rfl,Bool.true_and] at hd
 cases d' with
 | nil=>simp[oj] at hd
 | cons x r=>
   have hacc:accB 3 t' x=true:=by simpa[oj] using hd
   rw[TFd.ok_mk] at hgo
   exact⟨x,r,rfl,Oj (hs _ hg) hacc,hgo.2.2.2.2.2 x (by simp)⟩
end Go.Proofs.YtbaaokocnegdoaaGreatDoor
namespace Go.Ab
open Go
end Go.Ab
namespace Go.Proofs.YtbaaokocnegdoaaGreatDoor
open Go Go.Ab
attribute [local irreducible] vc
theorem Su {t:Typ}{x:Val}(hk:1<=t.kind/\t.kind<=7)(h:FitS t x):cn t.kind (x.num,x.scale,x.text)=x:=by
 have h1:=h.kd
 have h2:=h.fm
 obtain⟨k,n,s,tx,l,f⟩:=x
 simp only[Val.kind,Val.num,Val.scale,Val.text] at *
 rw[<- h1] at hk ⊢
 have e:k=1\/k=2\/k=3\/k=4\/k=5\/k=6\/k=7:=by omega
 have key:l=[]/\f=[]:=by
  rcases e with rfl | rfl | rfl | rfl | rfl | rfl | rfl
  all_goals
   simp[aG] at h2
   simp[h2]
 obtain⟨rfl,rfl⟩:=key
 rfl
inductive TxtD:Typ->Val->List UInt8->Prop where
 | bool {m M s w e f x}:FitS (.mk 1 m M s w e f) x->TxtD (.mk 1 m M s w e f) x (if x.num=1 then kh else lG)
 | num {k m M s w e f x} (sc:Nat):(k=2\/k=3)->FitS (.mk k m M s w e f) x->x.scale=(sc:Int)->IsN x.num sc->TxtD (.mk k m M s w e f) x (j0 x.num sc)
 | text {m M s w e f x}:FitS (.mk 4 m M s w e f) x->TxtD (.mk 4 m M s w e f) x x.text
 | octs {m M s w e f x}:FitS (.mk 5 m M s w e f) x->TxtD (.mk 5 m M s w e f) x (Ur x.text)
 | day {m M s w e f x} (y:Int) (mo:Nat) (d:Int):FitS (.mk 6 m M s w e f) x->DateOk y mo d->x.num=rz y mo d - 719162->TxtD (.mk 6 m M s w e f) x (Gm y mo d)
 | time {m M s w e f x} (y:Int) (mo:Nat) (d:Int) (h mi se ms:Nat):FitS (.mk 7 m M s w e f) x->DateOk y mo d->h<=23->mi<=59->se<=59->ms<=999->x.num=(rz y mo d - 719162)*86400000+(((60*(h:Int)+mi)*60+se)*1000+ms)->TxtD (.mk 7 m M s w e f) x (Lt (Gm y mo d) h mi se ms)
theorem LK {k:Int}(h:1<=k/\k<=7):mq k=true:=(dF k).2 h
theorem NC {t:Typ}{x:Val}(hk:1<=t.kind/\t.kind<=7)(h:FitS t x)(hl:x.text.length<=2000):dep 1 x:=by
 have hv:=Su hk h
 rw[<- hv]
 exact jN (by simp only;omega)
end Go.Proofs.YtbaaokocnegdoaaGreatDoor
/-
 DERIVED: THE SHELF's CONTRACTS AT THIS DUMP,IN PLAIN WORDS (tools/lay-plain.mjs out of 'TryzC9.lean',which tools/lay-shelf.mjs wrote): THE SAME DECLARATIONS UNDER THE SAME NAMES: 'import','namespace','open','def','theorem' AND NOTHING ELSE: no command of the shelf's: FOR A HAND-IN. Each laying: the table of numbers ('.._ren') and one theorem,a field a fact of the dump's own or the kernel's comparison;each fY: ONE APPLICATION.
-/
namespace Go.Proofs
open Go.Shelf
def Tryz.sortF_ren:Go.Shelf.Ren:=⟨fun | 6=>112 | 15=>163 | 14=>162 | 28=>218 | 29=>219 | 20=>210 | 21=>211 | 22=>212 | 23=>213 | 24=>214 | 25=>215 | 26=>216 | 27=>217 | 46=>255 | 47=>256 | 48=>257 | 49=>258 | 50=>259 | 57=>291 | n=>n,fun | 22=>29 | 24=>83 | 25=>166 | 3=>3 | 39=>93 | 0=>0 | 53=>210 | 55=>213 | 4=>4 | 46=>233 | 45=>232 | 50=>176 | 5=>5 | 9=>9 | 66=>265 | 70=>147 | 76=>291 | 77=>192 | n=>n,fun | n=>n⟩
theorem Tryz.sortF:Go.Proofs.SlLaysF0.n6 Tryz.prog Tryz.sortF_ren:={
 mixed:=by kernel_rfl
 f6:=⟨Tryz.f112.name,by decide,Tryz.func112.trans (congrArg some (by kernel_rfl))⟩
 f14:=⟨Tryz.f162.name,by decide,Tryz.func162.trans (congrArg some (by kernel_rfl))⟩
 f15:=Tryz.func163.trans (congrArg some (by kernel_rfl))
 f20:=⟨Tryz.f210.name,by decide,Tryz.func210.trans (congrArg some (by kernel_rfl))⟩
 f21:=⟨Tryz.f211.name,by decide,Tryz.func211.trans (congrArg some (by kernel_rfl))⟩
 f22:=⟨Tryz.f212.name,by decide,Tryz.func212.trans (congrArg some (by kernel_rfl))⟩
 f23:=⟨Tryz.f213.name,by decide,Tryz.func213.trans (congrArg some (by kernel_rfl))⟩
 f24:=⟨Tryz.f214.name,by decide,Tryz.func214.trans (congrArg some (by kernel_rfl))⟩
 f25:=⟨Tryz.f215.name,by decide,Tryz.func215.trans (congrArg some (by kernel_rfl))⟩
 f26:=⟨Tryz.f216.name,by decide,Tryz.func216.trans (congrArg some (by kernel_rfl))⟩
 f27:=⟨Tryz.f217.name,by decide,Tryz.func217.trans (congrArg some (by kernel_rfl))⟩
 f28:=Tryz.func218.trans (congrArg some (by kernel_rfl))
 f29:=Tryz.func219.trans (congrArg some (by kernel_rfl))
 f46:=⟨Tryz.f255.name,by decide,Tryz.func255.trans (congrArg some (by kernel_rfl))⟩
 f47:=Tryz.func256.trans (congrArg some (by kernel_rfl))
 f48:=Tryz.func257.trans (congrArg some (by kernel_rfl))
 f49:=⟨Tryz.f258.name,by decide,Tryz.func258.trans (congrArg some (by kernel_rfl))⟩
 f50:=⟨Tryz.f259.name,by decide,Tryz.func259.trans (congrArg some (by kernel_rfl))⟩
 f57:=⟨Tryz.f291.name,by decide,Tryz.func291.trans (congrArg some (by kernel_rfl))⟩
 t0:=Tryz.underlying0
 a0:=Tryz.isAgg0
 z0:=Tryz.sizeOf0
 v0:=Tryz.zeroValue0
 t3:=Tryz.underlying3
 a3:=Tryz.isAgg3
 z3:=Tryz.sizeOf3
 v3:=Tryz.zeroValue3
 t4:=Tryz.underlying4
 a4:=Tryz.isAgg4
 z4:=Tryz.sizeOf4
 v4:=Tryz.zeroValue4
 t5:=Tryz.underlying5
 a5:=Tryz.isAgg5
 z5:=Tryz.sizeOf5
 v5:=Tryz.zeroValue5
 t9:=Tryz.underlying9
 a9:=Tryz.isAgg9
 z9:=Tryz.sizeOf9
 v9:=Tryz.zeroValue9
 t22:=Tryz.underlying29
 a22:=Tryz.isAgg29
 z22:=Tryz.sizeOf29
 v22:=Tryz.zeroValue29
 t25:=Tryz.underlying166
 a25:=Tryz.isAgg166
 z25:=Tryz.sizeOf166
 v25:=Tryz.zeroValue166
 t39:=Tryz.underlying93
 a39:=Tryz.isAgg93
 z39:=Tryz.sizeOf93
 v39:=Tryz.zeroValue93
 t45:=Tryz.underlying232
 a45:=Tryz.isAgg232
 z45:=Tryz.sizeOf232
 v45:=Tryz.zeroValue232
 t46:=Tryz.underlying233
 a46:=Tryz.isAgg233
 z46:=Tryz.sizeOf233
 v46:=Tryz.zeroValue233
 t50:=Tryz.underlying176
 a50:=Tryz.isAgg176
 z50:=Tryz.sizeOf176
 v50:=Tryz.zeroValue176
 t53:=Tryz.underlying210
 a53:=Tryz.isAgg210
 z53:=Tryz.sizeOf210
 v53:=Tryz.zeroValue210
 t55:=Tryz.underlying213
 a55:=Tryz.isAgg213
 z55:=Tryz.sizeOf213
 v55:=Tryz.zeroValue213
 t66:=Tryz.underlying265
 a66:=Tryz.isAgg265
 z66:=Tryz.sizeOf265
 v66:=Tryz.zeroValue265
 t70:=Tryz.underlying147
 a70:=Tryz.isAgg147
 z70:=Tryz.sizeOf147
 v70:=Tryz.zeroValue147
 t76:=Tryz.underlying291
 a76:=Tryz.isAgg291
 z76:=Tryz.sizeOf291
 v76:=Tryz.zeroValue291
 t77:=Tryz.underlying192
 a77:=Tryz.isAgg192
 z77:=Tryz.sizeOf192
 v77:=Tryz.zeroValue192 }
end Go.Proofs
namespace Go.Proofs.YtbaaokocnegdoaaGreatDoor
open Go Go.Proofs Go.Shelf Go.RowKit Go.Lib Go.Sort
structure FldC where
 name:ByteArray
 c1:Value
 c2:Value
 c3:Value
 c4:Value
 c5:Value
 c6:Value
 one:c1.oneCell'=true/\c2.oneCell'=true/\c3.oneCell'=true/\c4.oneCell'=true/\c5.oneCell'=true/\c6.oneCell'=true
instance:Inhabited FldC:=⟨⟨.empty,.int .i64 0,.int .i64 0,.int .i64 0,.int .i64 0,.int .i64 0,.int .i64 0,by decide⟩⟩
def Ar (x:FldC):List Value:=[.string x.name,x.c1,x.c2,x.c3,x.c4,x.c5,x.c6]
def Tv (x y:FldC):Int:=Lib.compareBytes x.name.data.toList y.name.data.toList
theorem zq (x y:FldC)(W:World):Calls Tryz.prog 113 #[.agg (Ar x).toArray,.agg (Ar y).toArray] W fun e w'=>e = .returned (.int .i64 (Tv x y))/\∃ q os',w'=grow (W.drewN q) os':=by
 obtain⟨s,a1,a2,a3,a4,a5,a6,ha⟩:=x
 obtain⟨t,b1,b2,b3,b4,b5,b6,hb⟩:=y
 have hcon:=fun W'=>Tryz.strings_Compare s t W'
 simp only[Ar,Tv]
 generalize Lib.compareBytes s.data.toList t.data.toList=r at hcon ⊢
 go_enter Tryz.func113,Tryz.ntmps113
 go_wp2_with (go_at_call 114;refine (hcon _).mono ?_;rintro e w' ⟨rfl,rfl⟩)
 go_ret
 exact⟨rfl,0,_,by rw[alloc_eq_grow,alloc_eq_grow,grow_grow];rfl⟩
end Go.Proofs.YtbaaokocnegdoaaGreatDoor
