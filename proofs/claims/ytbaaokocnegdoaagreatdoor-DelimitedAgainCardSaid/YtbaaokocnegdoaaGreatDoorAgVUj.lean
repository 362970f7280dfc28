/- A part of the proof. -/
import Derived.Test.YtbaaokocnegdoaaGreatDoorAgVSg
set_option linter.unusedVariables false
set_option linter.unusedSimpArgs false
set_option maxRecDepth 100000
namespace Go.Proofs.YtbaaokocnegdoaaGreatDoor
open Go Go.Ab
theorem Lc {rec:Val->Val}{on:Bool}(hr:∀ v:Val,v.ok->(rec v).ok):∀ v:Val,v.ok->(cf rec on v).ok
 | .mk k i s t l f,h=>by
   rw[Val.ok_mk] at h
   obtain⟨h1,h2,h3,h4,h5,h6,h7,h8⟩:=h
   simp only[cf,Val.ok_mk]
   have ht:(t.take 40).length<=140737488351232:=by rw[List.length_take];omega
   cases on with
   | false=>simp only[Bool.false_eq_true,if_false];exact⟨h1,h2,h3,ht,by simp,by simp,by simp,by simp⟩
   | true=>
     simp only[if_true]
     refine⟨h1,h2,h3,ht,by rw[List.length_map,List.length_take];omega,fun x hx=>?_,by rw[List.length_map,List.length_take];omega,fun x hx=>?_⟩
     ·obtain⟨y,hy,rfl⟩:=List.mem_map.1 hx
      exact hr y (h6 y (List.mem_of_mem_take hy))
     ·obtain⟨y,hy,rfl⟩:=List.mem_map.1 hx
      have:=h8 y (List.mem_of_mem_take hy)
      obtain⟨n,v⟩:=y
      rw[Fld.ok_mk] at this
      simp only[jg,Fld.ok_mk]
      exact⟨by rw[List.length_take];omega,hr v this.2⟩
theorem pa:∀ (n:Nat) (v:Val),v.ok->(aN n v).ok
 | 0=>Lc (fun _ h=>h)
 | n+1=>Lc (pa n)
theorem ee {rec:Val->Val}{on:Bool}(v:Val):(cf rec on v).lst.length<=6/\(cf rec on v).fields.length<=6/\(∀ x∈(cf rec on v).lst,on=true/\∃ y∈v.lst,x=rec y)/\∀ x∈(cf rec on v).fields,on=true/\∃ y∈v.fields,x.value=rec y.value:=by
 obtain⟨k,i,s,t,l,f⟩:=v
 simp only[cf,Val.lst,Val.fields]
 cases on with
 | false=>simp
 | true=>
   simp only[if_true]
   refine⟨by rw[List.length_map,List.length_take];omega,by rw[List.length_map,List.length_take];omega,fun x hx=>?_,fun x hx=>?_⟩
   ·obtain⟨y,hy,rfl⟩:=List.mem_map.1 hx
    exact⟨by trivial,y,List.mem_of_mem_take hy,rfl⟩
   ·obtain⟨y,hy,rfl⟩:=List.mem_map.1 hx
    obtain⟨n,v⟩:=y
    exact⟨by trivial,_,List.mem_of_mem_take hy,rfl⟩
theorem pD {v x:Val}(h:x∈bq v):x∈v.lst\/∃ f∈v.fields,x=f.value:=by
 unfold bq at h
 split at h
 ·exact .inl h
 ·split at h
  ·obtain⟨f,hf,rfl⟩:=List.mem_map.1 h
   exact .inr ⟨f,hf,rfl⟩
  ·cases h
theorem pE (v:Val)(h1:v.lst.length<=6)(h2:v.fields.length<=6):(bq v).length<=6:=by
 unfold bq
 split
 ·exact h1
 ·split
  ·rw[List.length_map];exact h2
  ·simp
theorem je {n:Nat}{v x:Val}(h:x∈bq (aN (n+1) v)):∃ y,x=aN n y:=by
 obtain⟨_,_,h3,h4⟩:=ee (rec:=aN n) (on:=decide (0<n)) v
 rcases pD h with h | ⟨f,hf,rfl⟩
 ·obtain⟨_,y,_,e⟩:=h3 x h;exact⟨y,e⟩
 ·obtain⟨_,y,_,e⟩:=h4 f hf;exact⟨y.value,e⟩
theorem gA (v:Val):bq (aN 0 v)=[]:=by
 obtain⟨_,_,h3,h4⟩:=ee (rec:=id) (on:=false) v
 refine List.eq_nil_iff_forall_not_mem.2 fun x h=>?_
 rcases pD h with h | ⟨f,hf,rfl⟩
 ·exact absurd (h3 x h).1 (by decide)
 ·exact absurd (h4 f hf).1 (by decide)
theorem rV:∀ (n:Nat) (v:Val),(bq (aN n v)).length<=6
 | 0,v=>pE _ (ee (rec:=id) (on:=false) v).1 (ee (rec:=id) (on:=false) v).2.1
 | n+1,v=>pE _ (ee (rec:=aN n) (on:=decide (0<n)) v).1 (ee (rec:=aN n) (on:=decide (0<n)) v).2.1
theorem kn:∀ (n:Nat) (v:Val),fM (n+1) (aN n v)
 | 0,v=>by intro x hx;rw[gA] at hx;cases hx
 | n+1,v=>by
   intro x hx
   obtain⟨y,rfl⟩:=je hx
   exact kn n y
def Oj:Nat->Nat
 | 0=>1
 | n+1=>1+6*Oj n
theorem mE {c:Nat}:∀ (l:List Nat),(∀ x∈l,x<=c)->l.sum<=l.length*c
 | [],_=>by simp
 | x::r,h=>by
   have h1:=h x (List.mem_cons_self ..)
   have h2:=mE r fun y hy=>h y (List.mem_cons_of_mem _ hy)
   rw[List.sum_cons,List.length_cons,Nat.add_mul,Nat.one_mul]
   omega
theorem o9:∀ (n m:Nat) (v:Val),szN m (aN n v)<=Oj n
 | _,0,_=>by rw[szN];exact Nat.zero_le _
 | 0,m+1,v=>by rw[szN,gA];simp[Oj]
 | n+1,m+1,v=>by
   rw[szN,Oj]
   have h1:=mE (c:=Oj n) ((bq (aN (n+1) v)).map (szN m)) fun x hx=>by
    obtain⟨y,hy,rfl⟩:=List.mem_map.1 hx
    obtain⟨z,rfl⟩:=je hy
    exact o9 n m z
   have h2:=rV (n+1) v
   rw[List.length_map] at h1
   have h3:=Nat.mul_le_mul_right (Oj n) h2
   omega
theorem Bm {n:Nat}{rec:Val->Val}{on:Bool}(hr:∀ v:Val,v.ok->(rec v).ok)(ht:on=true->∀ v:Val,v.ok->kb n (rec v))(v:Val)(hv:v.ok):kb (n+1) (cf rec on v):=by
 obtain⟨h1,h2,h3,h4⟩:=ee (rec:=rec) (on:=on) v
 refine⟨Lc hr v hv,by omega,by omega,fun x hx=>?_,fun x hx=>?_⟩
 ·obtain⟨ho,y,hy,rfl⟩:=h3 x hx
  obtain⟨k,i,s,t,l,f⟩:=v
  rw[Val.ok_mk] at hv
  exact ht ho y (hv.2.2.2.2.2.1 y hy)
 ·obtain⟨ho,y,hy,e⟩:=h4 x hx
  rw[e]
  obtain⟨k,i,s,t,l,f⟩:=v
  rw[Val.ok_mk] at hv
  have:=hv.2.2.2.2.2.2.2 y hy
  obtain⟨n',v'⟩:=y
  rw[Fld.ok_mk] at this
  exact ht ho v' this.2
theorem km:∀ (n:Nat) (v:Val),v.ok->kb (n+1) (aN n v)
 | 0=>Bm (fun _ h=>h) (fun h=>absurd h (by decide))
 | n+1=>Bm (pa n) (fun _=>km n)
theorem ed:∀ (n:Nat) (v:Val),kb n v->kb (n+1) v
 | 0,_,h=>h.elim
 | n+1,v,h=>⟨h.1,h.2.1,h.2.2.1,fun x hx=>ed n x (h.2.2.2.1 x hx),fun x hx=>ed n x.value (h.2.2.2.2 x hx)⟩
theorem ON (v:Val)(hv:v.ok):kb 9 (aN 3 v)/\fM 9 (aN 3 v)/\(dm 9 1 (aN 3 v)).length<=1000000000000:=by
 refine⟨ed _ _ (ed _ _ (ed _ _ (ed _ _ (ed _ _ (km 3 v hv))))),fC _ _ (fC _ _ (fC _ _ (fC _ _ (fC _ _ (kn 3 v))))),?_⟩
 rw[Cy]
 exact Nat.le_trans (o9 3 9 v) (by decide)
theorem Bt {n:Nat}{rec:Typ->Typ}{on:Bool}(hr:on=true->∀ t:Typ,t.ok->cp n (rec t)/\aX n (rec t)):∀ t:Typ,t.ok->cp (n+1) (cR rec on t)/\aX (n+1) (cR rec on t)
 | .mk k m M s w e f,h=>by
   rw[Typ.ok_mk] at h
   obtain⟨h1,h2,h3,h4,h5,h6,h7,h8,h9,h10⟩:=h
   have hw1:((w.take 6).map (List.take 40)).length<=1000000:=by rw[List.length_map,List.length_take];omega
   have hw2:∀ x∈(w.take 6).map (List.take 40),x.length<=1000000:=fun x hx=>by
    obtain⟨y,hy,rfl⟩:=List.mem_map.1 hx
    rw[List.length_take];omega
   simp only[cR,cp,aX]
   cases on with
   | false=>simp only[Bool.false_eq_true,if_false];exact⟨⟨hw1,hw2,by simp,by simp,by simp,by simp⟩,by simp,by simp,by simp,by simp⟩
   | true=>
     simp only[if_true]
     have hel:((e.take 2).map rec).length<=2:=by rw[List.length_map,List.length_take];omega
     have hfl:((f.take 6).map (cg rec)).length<=6:=by rw[List.length_map,List.length_take];omega
     have he:∀ x∈(e.take 2).map rec,cp n x/\aX n x:=fun x hx=>by
      obtain⟨y,hy,rfl⟩:=List.mem_map.1 hx
      exact hr rfl y (h8 y (List.mem_of_mem_take hy))
     have hf:∀ g∈(f.take 6).map (cg rec),(g.dflt.length<=1000000/\(∀ v∈g.dflt,kb 9 v/\fM 9 v/\(dm 9 1 v).length<=1000000000000)/\cp n g.typ)/\aX n g.typ:=fun x hx=>by
      obtain⟨y,hy,rfl⟩:=List.mem_map.1 hx
      have hy':=h10 y (List.mem_of_mem_take hy)
      obtain⟨a,b,c,t,d⟩:=y
      rw[TFd.ok_mk] at hy'
      obtain⟨_,_,_,q4,_,q6⟩:=hy'
      have hh:=hr rfl t q4
      simp only[cg,TFd.dflt,TFd.typ]
      refine⟨⟨by rw[List.length_map,List.length_take];omega,fun v hv=>?_,hh.1⟩,hh.2⟩
      obtain⟨z,hz,rfl⟩:=List.mem_map.1 hv
      exact ON z (q6 z (List.mem_of_mem_take hz))
     exact⟨⟨hw1,hw2,by omega,by omega,fun x hx=>(he x hx).1,fun g hg=>(hf g hg).1⟩,by omega,by omega,fun x hx=>(he x hx).2,fun g hg=>(hf g hg).2⟩
theorem kr:∀ (n:Nat) (t:Typ),t.ok->cp (n+1) (aZ n t)/\aX (n+1) (aZ n t)
 | 0=>Bt (fun h=>absurd h (by decide))
 | n+1=>Bt (fun _=>kr n)
attribute [local irreducible] vc
def MN (k:Int):Bool:=decide (1<=k)&&decide (k<=7)
def wW (t:Typ)(n:Int):Int:=if gj n=false then 2 else if ¬ Ln 4 t=0 then 18 else if tD t=false then 18 else 0
theorem JY (t:Typ)(n:Int)(ht:cp 4 t)(hn:aX 4 t)(hf:t.fields.length<=1000000):ae Tryz.prog au 17 [t.pv,.int .i64 n] (.int .i64 (wW t n)):=by
 have h47:=tt n
 have h48:=Nw 4 t (by omega) ht hn
 have h49:=PR t hf
 simp only[wW]
 generalize gj n=b at *
 generalize Ln 4 t=z at *
 generalize tD t=q at *
 obtain⟨k,m,M,s,w,e,f⟩:=t
 simp only[Typ.pv_mk] at h48 h49 ⊢
 refine ae.intro Q17.2 (by simp[Q17]) ?_
 cases b with
 | false=>
   simp(disch:=try exact dI) only[Q17,push_cast,seval]
   refine ab.pure h47 rfl ?_
   exact qsZ
 | true=>
 rw[if_neg (show ¬ true=false by decide)]
 by_cases hz:z=0
 ·subst hz
  rw[if_neg (show ¬ ¬ (0:Int)=0 by decide)]
  simp(disch:=try exact dI) only[Q17,push_cast,seval]
  refine ab.pure h47 rfl ?_
  refine zgZ ?_
  refine ab.pure h48 rfl ?_
  refine zgZ ?_
  refine ab.pure h49 rfl ?_
  cases q with
  | false=>simp(disch:=try exact dI) only[push_cast,seval]
  | true=>simp(disch:=try exact dI) only[push_cast,seval]
 ·rw[if_pos hz]
  simp(disch:=try exact dI) only[Q17,push_cast,seval]
  refine ab.pure h47 rfl ?_
  refine zgZ ?_
  refine ab.pure h48 rfl ?_
  simp(disch:=try exact dI) only[hz,push_cast,seval]
theorem Nn (g:TFd):zq g=!(MN g.typ.kind):=by
 unfold zq MN
 by_cases h1:g.typ.kind<1
 ·rw[decide_eq_true h1,decide_eq_false (show ¬ 1<=g.typ.kind by omega)];rfl
 ·rw[decide_eq_false h1,decide_eq_true (show 1<=g.typ.kind by omega)]
  by_cases h2:7<g.typ.kind
  ·rw[decide_eq_true h2,decide_eq_false (show ¬ g.typ.kind<=7 by omega)];rfl
  ·rw[decide_eq_false h2,decide_eq_true (show g.typ.kind<=7 by omega)];rfl
theorem IJ {n:Nat}{t:Typ}{x:Val}{p:List UInt8}(h:aK (n+1) t x p=[]):x.kind=t.kind/\az x=true:=by
 rw[aV] at h
 by_cases a:t.kind<1\/10<t.kind\/¬ x.kind=t.kind
 ·rw[bA a] at h;cases h
 ·cases b:az x with
  | false=>rw[dR a b] at h;cases h
  | true=>exact⟨Decidable.byContradiction fun hh=>a (.inr (.inr hh)),rfl⟩
theorem sG {a b:Int}{p:List UInt8}{n:Int}(h:jS a b p n=[]):a<=n/\n<=b:=by
 unfold jS at h
 by_cases c:n<a\/b<n
 ·rw[if_pos c] at h;cases h
 ·omega
structure FitS (t:Typ)(v:Val):Prop where
 kd:v.kind=t.kind
 fm:az v=true
 nm:t.kind=2\/t.kind=6\/t.kind=7\/t.kind=3->t.min<=v.num/\v.num<=t.max
 sc:t.kind=3->v.scale=t.scale
 wd:t.kind=4->0<t.words.length->(t.words.any fun x=>decide (x=v.text))=true
 tx:t.kind=5\/t.kind=4/\t.words.length=0->t.min<=(v.text.length:Int)/\(v.text.length:Int)<=t.max
theorem uP {a b n:Int}{p:List UInt8}(h:a<=n/\n<=b):jS a b p n=[]:=if_neg (by omega)
theorem og {n:Nat}{t:Typ}{v:Val}(hk:1<=t.kind/\t.kind<=7)(h:FitS t v)(p:List UInt8):aK (n+1) t v p=[]:=by
 have a:¬ (t.kind<1\/10<t.kind\/¬ v.kind=t.kind):=fun q=>q.elim (by omega) fun q=>q.elim (by omega) fun q=>q h.kd
 rw[aV]
 have e:t.kind=1\/(t.kind=2\/t.kind=6\/t.kind=7)\/t.kind=3\/t.kind=4\/t.kind=5:=by omega
 rcases e with e | e | e | e | e
 ·exact mU a h.fm e
 ·rw[fc a h.fm e];exact uP (h.nm (by omega))
 ·rw[kZ a h.fm e (h.sc e)];exact uP (h.nm (by omega))
 ·by_cases hw:0<t.words.length
  ·exact mT a h.fm e hw (h.wd e hw)
  ·rw[dP a h.fm (.inl e) (fun _=>by omega)];exact uP (h.tx (.inr ⟨e,by omega⟩))
 ·rw[dP a h.fm (.inr e) (fun q=>by omega)];exact uP (h.tx (.inl e))
theorem uY {n:Nat}{t:Typ}{v:Val}{p:List UInt8}(hk:1<=t.kind/\t.kind<=7)(h:aK (n+1) t v p=[]):FitS t v:=by
 obtain⟨h1,h2⟩:=IJ h
 have a:¬ (t.kind<1\/10<t.kind\/¬ v.kind=t.kind):=fun q=>q.elim (by omega) fun q=>q.elim (by omega) fun q=>q h1
 rw[aV] at h
 have hsc:t.kind=3->v.scale=t.scale:=fun e=>Decidable.byContradiction fun hs=>by rw[kY a h2 e hs] at h;cases h
 refine⟨h1,h2,fun e=>?_,hsc,fun e hw=>?_,fun e=>?_⟩
 ·by_cases e3:t.kind=3
  ·rw[kZ a h2 e3 (hsc e3)] at h;exact sG h
  ·rw[fc a h2 (by omega)] at h;exact sG h
 ·cases ha:(t.words.any fun x=>decide (x=v.text)) with
  | true=>rfl
  | false=>rw[jm a h2 e hw ha] at h;cases h
 ·rw[dP a h2 (by omega) (fun q=>by omega)] at h;exact sG h
theorem EI {x:Val}(h:ov 0 (dm 9 1 x)=0):bz x=false/\ce x=true/\bE x=0:=by
 have hs:bg 0 (1,x)=0:=by
  rw[dm,ov] at h
  by_cases h0:bg 0 (1,x)=0
  ·exact h0
  ·rw[if_neg h0] at h;exact absurd h h0
 unfold bg at hs
 rw[if_neg (by decide),if_neg (show ¬ (8:Int)<((1:Int),x).1 from (by decide:¬ (8:Int)<1))] at hs
 simp only at hs
 cases hn:bz x with
 | true=>rw[hn,if_pos rfl] at hs;cases hs
 | false=>
   rw[hn,if_neg (by decide)] at hs
   by_cases hk:x.kind<1\/10<x.kind
   ·rw[if_pos hk] at hs;cases hs
   ·rw[if_neg hk] at hs
    cases hu:ce x with
    | false=>rw[hu,if_pos rfl] at hs;cases hs
    | true=>rw[hu,if_neg (by decide)] at hs;exact⟨rfl,rfl,hs⟩
theorem Hs {n a b:Int}(h:gL n a b=0):a<=n/\n<=b:=by
 unfold gL at h
 by_cases c:n<a\/b<n
 ·rw[if_pos c] at h;cases h
 ·omega
theorem zI {x:Val}(hk:1<=x.kind/\x.kind<=7)(h:ov 0 (dm 9 1 x)=0):az x=true:=by
 obtain⟨_,hu,hr⟩:=EI h
 obtain⟨k,n,s,t,l,f⟩:=x
 simp only[Val.kind] at hk
 have e:k=1\/k=2\/k=3\/k=4\/k=5\/k=6\/k=7:=by omega
 rcases e with rfl | rfl | rfl | rfl | rfl | rfl | rfl
 ·have:=Hs (show gL n 0 1=0 from hr)
  simp[ce] at hu
  simp[az,hu];omega
 ·simp[ce] at hu;simp[az,hu]
 ·simp[ce] at hu;simp[az,hu]
 ·simp[ce] at hu
  have hv:Lib.validD t=true:=by
   have hr':(if gp t.length 1024 5=0 then (if Lib.validD t=true then (0:Int) else 16) else gp t.length 1024 5)=0:=hr
   by_cases c:gp t.length 1024 5=0
   ·rw[if_pos c] at hr'
    cases hv:Lib.validD t with
    | true=>rfl
    | false=>rw[hv,if_neg (by decide)] at hr';cases hr'
   ·rw[if_neg c] at hr';exact absurd hr' c
  simp[az,hu,hv]
 ·simp[ce] at hu;simp[az,hu]
 ·simp[ce] at hu;simp[az,hu]
 ·simp[ce] at hu;simp[az,hu]
theorem NR {n:Nat}{t:Typ}{x:Val}(hk:1<=t.kind/\t.kind<=7)(h:accB n t x=true):FitS t x:=by
 unfold accB at h
 rw[Bool.and_eq_true,decide_eq_true_eq] at h
 obtain⟨hc,hh⟩:=h
 cases n with
 | zero=>rw[dV] at hh;cases hh
 | succ n=>
   rw[dV,Bool.and_eq_true,decide_eq_true_eq] at hh
   obtain⟨h1,h2⟩:=hh
   have hfm:=zI (by omega) hc
   unfold Is at h2
   refine⟨h1,hfm,fun e=>?_,fun e=>?_,fun e hw=>?_,fun e=>?_⟩
   ·rw[if_pos e,Ry,Bool.and_eq_true,inB,Bool.and_eq_true,decide_eq_true_eq,decide_eq_true_eq] at h2
    exact h2.1
   ·rw[if_pos (by omega),Ry,Bool.and_eq_true,decide_eq_true_eq] at h2
    exact h2.2
   ·rw[if_neg (by omega),if_pos e,Rt,if_pos hw] at h2
    exact h2
   ·by_cases e5:t.kind=5
    ·rw[if_neg (by omega),if_neg (by omega),if_pos e5,inB,Bool.and_eq_true,decide_eq_true_eq,decide_eq_true_eq] at h2
     exact h2
    ·have e4:t.kind=4/\t.words.length=0:=by omega
     rw[if_neg (by omega),if_pos e4.1,Rt,if_neg (by omega),inB,Bool.and_eq_true,decide_eq_true_eq,decide_eq_true_eq] at h2
     exact h2
theorem kR {v:Val}(h:1<=v.kind):bz v=false:=by
 obtain⟨k,n,s,t,l,f⟩:=v
 simp only[Val.kind] at h
 show (decide (k=0)&&(decide (n=0)&&(decide (s=0)&&(decide (t=[])&&(decide (l.length=0)&&decide (f.length=0))))))=false
 rw[decide_eq_false (by omega),Bool.false_and]
theorem qx {n:Nat}{rec:Int->Typ->Int×Int}:∀ (ps:List TFd) (l:Int),(fL n rec l ps).1=0->∀ g∈ps,tL n g=false
 | [],_,_,_,h=>by cases h
 | x::r,l,h,t,ht=>by
   rw[fL] at h
   by_cases h0:(rec l x.typ).1=0
   ·rw[if_pos h0] at h
    by_cases hd:tL n x=true
    ·rw[if_pos hd] at h;exact absurd h (show ¬ (18:Int)=0 by decide)
    ·rw[if_neg hd] at h
     rcases List.mem_cons.1 ht with rfl | ht
     ·simpa using hd
     ·exact qx r _ h t ht
   ·rw[if_neg h0] at h;exact absurd h h0
theorem Eb {k:Int}{b:List TFd}{g:TFd}(h:cZ k b g=0):∀ y∈b,y.name≠g.name:=by
 obtain⟨n,nm,nd,t,d⟩:=g
 intro y hy e
 rw[qC] at h
 have ha:b.any (oK n nm)=true:=List.any_eq_true.2 ⟨y,hy,by have e':y.name=nm:=e;simp[oK,e']⟩
 by_cases h1:dB nm=false
 ·rw[if_pos h1] at h;cases h
 rw[if_neg h1] at h
 by_cases h2:inB n 1 9999=false
 ·rw[if_pos h2] at h;cases h
 rw[if_neg h2,if_pos ha] at h;cases h
theorem yR {k:Int}{b:List TFd}{g:TFd}(h:cZ k b g=0):1<=g.need/\g.need<=3:=by
 obtain⟨n,nm,nd,t,d⟩:=g
 rw[qC] at h
 by_cases h1:dB nm=false
 ·rw[if_pos h1] at h;cases h
 rw[if_neg h1] at h
 by_cases h2:inB n 1 9999=false
 ·rw[if_pos h2] at h;cases h
 rw[if_neg h2] at h
 by_cases h3:b.any (oK n nm)=true
 ·rw[if_pos h3] at h;cases h
 rw[if_neg h3] at h
 unfold OI at h
 by_cases h4:inB nd 1 3=false
 ·rw[if_pos h4] at h;cases h
 have h5:inB nd 1 3=true:=by simpa using h4
 show 1<=nd/\nd<=3
 simpa[inB] using h5
theorem jq {k:Int}:∀ (f b:List TFd),ck k b f=0->(f.map TFd.name).Nodup/\∀ x∈f,∀ y∈b,y.name≠x.name
 | [],b,_=>⟨List.nodup_nil,fun x hx=>by cases hx⟩
 | g::r,b,h=>by
   rw[ck] at h
   by_cases h0:cZ k b g=0
   ·rw[if_pos h0] at h
    obtain⟨i1,i2⟩:=jq r (b++[g]) h
    refine⟨?_,fun x hx=>?_⟩
    ·rw[List.map_cons,List.nodup_cons]
     refine⟨fun hm=>?_,i1⟩
     obtain⟨y,hy,e⟩:=List.mem_map.1 hm
     exact i2 y hy g (by simp) e.symm
    ·rcases List.mem_cons.1 hx with rfl | hx
     ·exact Eb h0
     ·exact fun y hy=>i2 x hx y (List.mem_append_left _ hy)
   ·rw[if_neg h0] at h;exact absurd h h0
structure CellT (g:TFd):Prop where
 own:jk g.typ=0
 kd:1<=g.typ.kind/\g.typ.kind<=7
 ty:eI 1 g.typ
 nml:g.name.length<=100
 nd:1<=g.need/\g.need<=3
 dft:g.need=3->∃ x r,g.dflt=x::r/\FitS g.typ x/\x.ok
structure RTy (t:Typ):Prop where
 k9:t.kind=9
 pos:0<t.fields.length
 len:t.fields.length<=6
 fld:∀ g∈t.fields,CellT g
 nm:(t.fields.map TFd.name).Nodup
theorem D1 {t:Typ}(h:tD t=true):t.kind=9/\0<t.fields.length/\∀ g∈t.fields,1<=g.typ.kind/\g.typ.kind<=7:=by
 obtain⟨k,m,M,s,w,e,f⟩:=t
 simp only[tD,Bool.and_eq_true,decide_eq_true_eq,Bool.not_eq_true'] at h
 refine⟨h.1,h.2.1,fun g hg=>?_⟩
 have:=List.any_eq_false.1 h.2.2 g hg
 rw[Nn] at this
 simp[MN] at this
 exact this
theorem uE {t:Typ}{n:Int}(h:wW t n=0)(ht:t.ok)(hw:aX 4 t)(hty:eI 3 t):RTy t/\gj n=true:=by
 unfold wW at h
 by_cases h1:gj n=false
 ·rw[if_pos h1] at h;cases h
 rw[if_neg h1] at h
 by_cases h2:¬ Ln 4 t=0
 ·rw[if_pos h2] at h;cases h
 rw[if_neg h2] at h
 by_cases h3:tD t=false
 ·rw[if_pos h3] at h;cases h
 have h0:Ln 4 t=0:=Decidable.byContradiction h2
 obtain⟨k9,hp,hs⟩:=D1 (by simpa using h3)
 have hc:(i6 4 4096 t).1=0:=by
  unfold Ln at h0
  by_cases c:(i6 4 4096 t).1=0
  ·exact c
  ·rw[if_neg c] at h0;exact absurd h0 c
 have htv:=iZ 4 4096 t hw hc
 obtain⟨k,m,M,s,w,e,f⟩:=t
 simp only[Typ.kind,Typ.fields] at k9 hp hs
 subst k9
 have hw':=hw
 simp only[aX] at hw
 rw[i6,if_pos htv.1,if_pos rfl] at hc
 rw[Typ.ok_mk] at ht
 have hnd:=(jq f [] (cn htv.1).2.2.2).1
 refine⟨⟨rfl,hp,hw.2.1,fun g hg=>?_,hnd⟩,by simpa using h1⟩
 have hgo:=ht.2.2.2.2.2.2.2.2.2 g hg
 have hgt:=hty.2.2.2 g hg
 have hown:jk g.typ=0:=by
  have:=htv.2.2 (.inl rfl) g hg
  obtain⟨n',nm',nd',⟨k',m',M',s',w',e',f'⟩,d'⟩:=g
  exact this.1
 obtain⟨b,hb⟩:=eB f [] (cn htv.1).2.2.2 g hg
 refine⟨hown,hs g hg,⟨hgt.2.1,hgt.2.2.1,fun _ _=>trivial,fun f hf=>⟨(hgt.2.2.2.2 f hf).1,trivial⟩⟩,hgt.1,yR hb,fun h3=>?_⟩
 have hd:=qx f _ hc g hg
 obtain⟨n',nm',nd',t',d'⟩:=g
 simp only[TFd.need] at h3
 subst h3
 replace hd:(decide ((3:Int)=3)&&!(tw (accB 3 t') d'))=false:=hd
 rw[decide_eq_true rfl,Bool.true_and] at hd
 cases d' with
 | nil=>simp[tw] at hd
 | cons x r=>
   have hacc:accB 3 t' x=true:=by simpa[tw] using hd
   rw[TFd.ok_mk] at hgo
   exact⟨x,r,rfl,NR (hs _ hg) hacc,hgo.2.2.2.2.2 x (by simp)⟩
end Go.Proofs.YtbaaokocnegdoaaGreatDoor
namespace Go.Ab
open Go
theorem AK (n:Int)(h0:0<=n):∀ k:Nat,n<d7 ((k:Int)+1)->∃ y:Int,1<=y/\y<=k/\d7 y<=n/\n<d7 (y+1)
 | 0,h=>absurd h (by rw[show d7 (((0:Nat):Int)+1)=0 from rfl];omega)
 | k+1,h=>by
   by_cases hk:d7 ((k:Int)+1)<=n
   ·exact⟨(k:Int)+1,by omega,by omega,hk,by simpa using h⟩
   ·obtain⟨y,a,b,c,d⟩:=AK n h0 k (by omega)
    exact⟨y,a,by omega,c,d⟩
theorem uX (y r:Int)(h0:0<=r):∀ k:Nat,r<dG y k->∃ m:Nat,1<=m/\m<=k/\dG y (m - 1)<=r/\r<dG y m
 | 0,h=>absurd h (by rw[show dG y 0=0 from rfl];omega)
 | k+1,h=>by
   by_cases hk:dG y k<=r
   ·exact⟨k+1,by omega,by omega,hk,h⟩
   ·obtain⟨m,a,b,c,d⟩:=uX y r h0 k (by omega)
    exact⟨m,a,by omega,c,d⟩
theorem Ks {n:Int}(h0:0<=n)(h1:n<=3652058):∃ y m d,DateOk y m d/\n=iX y m d:=by
 have hb:d7 (((9999:Nat):Int)+1)=3652059:=by decide
 obtain⟨y,y1,y2,b1,b2⟩:=AK n h0 9999 (by rw[hb];omega)
 have hs:=oz y
 have h12:=JO y
 obtain⟨m,m1,m2,c1,c2⟩:=uX y (n - d7 y) (by omega) 12 (by omega)
 have hm:dG y m=dG y (m - 1)+mdI y m:=by
  obtain⟨k,rfl⟩:∃ k,m=k+1:=⟨m - 1,by omega⟩
  simp[dG]
 exact⟨y,m,n - d7 y - dG y (m - 1)+1,⟨y1,by simpa using y2,m1,m2,by omega,by omega⟩,by unfold iX;omega⟩
end Go.Ab
