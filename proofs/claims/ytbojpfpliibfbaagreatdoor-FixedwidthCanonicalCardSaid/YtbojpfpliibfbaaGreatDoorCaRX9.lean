/- A part of the proof. -/
import Derived.Test.YtbojpfpliibfbaaGreatDoorCaRSr3
set_option maxHeartbeats 16000000
set_option maxRecDepth 100000
set_option linter.unusedVariables false
set_option linter.unusedSimpArgs false
namespace Go.Proofs.YtbojpfpliibfbaaGreatDoor
open Go Go.Ab
attribute [local irreducible] vc
def Hp (n m:Int):Int:=if n<m then -1 else if m<n then 1 else 0
theorem yX (n m:Int):ag Tryz.prog au 119 [.int .i64 n,.int .i64 m] (.int .i64 (Hp n m)):=by
 unfold Hp
 refine ag.intro Pe.2 (by simp[Pe]) ?_
 by_cases h1:n<m
 ·rw[if_pos h1]
  simp(disch:=try exact dI) only[Pe,h1,push_cast,seval]
 ·rw[if_neg h1]
  by_cases h2:m<n
  ·rw[if_pos h2]
   simp(disch:=try exact dI) only[Pe,h1,h2,push_cast,seval]
  ·rw[if_neg h2]
   simp(disch:=try exact dI) only[Pe,h1,h2,push_cast,seval]
theorem Oy (a b:List UInt8)(i:Nat)(h1:i<=a.length)(h2:i<=b.length)(h:¬ (i<a.length/\i<b.length)):Lib.compareBytes (a.drop i) (b.drop i)=Hp (a.length:Int) (b.length:Int):=by
 unfold Hp
 by_cases ha:i=a.length
 ·rw[ha,List.drop_length]
  by_cases hb:a.length<b.length
  ·rw[if_pos (by omega)]
   obtain⟨y,hy⟩:∃ y,b[a.length]? = some y:=⟨_,List.getElem?_eq_getElem hb⟩
   rw[cu hy];rfl
  ·have:b.length=a.length:=by omega
   rw[if_neg (by omega),if_neg (by omega),<- this,List.drop_length];rfl
 ·have hb:i=b.length:=by omega
  rw[hb,List.drop_length,if_neg (by omega),if_pos (by omega)]
  obtain⟨y,hy⟩:∃ y,a[b.length]? = some y:=⟨_,List.getElem?_eq_getElem (by omega)⟩
  rw[cu hy];rfl
theorem Hl (a b:List UInt8)(ha:a.length<=140737488351232)(hb:b.length<=140737488351232):ag Tryz.prog au 68 [.str a,.str b] (.int .i64 (Lib.compareBytes a b)):=by
 have hs:=fun n m=>yX n m
 obtain⟨R,hR⟩:∃ R,R=Lib.compareBytes a b:=⟨_,rfl⟩
 rw[<- hR]
 refine ag.intro Q68.2 (by simp[Q68]) ?_
 simp(disch:=try exact dI) only[Q68,push_cast,seval]
 refine az ([]) (fun i:Nat=>[(5,.pv (.int .i64 (i:Int)))]) (fun _=>[]) (fun i=>i<=a.length/\i<=b.length/\R=Lib.compareBytes (a.drop i) (b.drop i)) (fun i=>a.length - i) (0) ?_;intro e0 σ0 n0 h0;simp(disch:=try exact dI) only[push_cast,seval] at h0;obtain⟨rfl,rfl,rfl⟩:=h0;refine⟨?_,?_,?_⟩
 ·exact qsZ
 ·exact⟨by omega,by omega,by simpa using hR⟩
 rintro i ⟨h1,h2,h3⟩
 by_cases hl:i<a.length/\i<b.length
 ·have hI1:(i:Int)<(a.length:Int):=by omega
  have hI2:(i:Int)<(b.length:Int):=by omega
  obtain⟨x,hx⟩:∃ x,a[i]? = some x:=⟨_,List.getElem?_eq_getElem hl.1⟩
  obtain⟨y,hy⟩:∃ y,b[i]? = some y:=⟨_,List.getElem?_eq_getElem hl.2⟩
  rw[cu hx,cu hy,Lib.compareBytes] at h3
  have hxl:=x.toNat_lt
  have hyl:=y.toNat_lt
  by_cases he:x=y
  ·subst he
   rw[if_neg (by rw[UInt8.lt_iff_toNat_lt];omega),if_neg (by rw[UInt8.lt_iff_toNat_lt];omega)] at h3
   simp(disch:=try exact dI) only[hI1,hI2,hx,hy,aS,push_cast,seval]
   exact⟨i+1,aZ qsZ,⟨by omega,by omega,h3⟩,by omega⟩
  ·have heI:¬ (x.toNat:Int)=(y.toNat:Int):=fun h=>he ((u8n x y).1 h)
   have hsg:R=Hp (x.toNat:Int) (y.toNat:Int):=by
    rw[h3];unfold Hp
    by_cases c:x.toNat<y.toNat
    ·rw[if_pos (by rw[UInt8.lt_iff_toNat_lt];exact c),if_pos (by omega)]
    ·rw[if_neg (by rw[UInt8.lt_iff_toNat_lt];exact c),if_pos (by rw[UInt8.lt_iff_toNat_lt];omega),if_neg (by omega),if_pos (by omega)]
   have hs1:=hs (x.toNat:Int) (y.toNat:Int)
   rw[<- hsg] at hs1
   simp(disch:=try exact dI) only[hI1,hI2,hx,hy,aS,heI,push_cast,seval]
   refine ab.pure hs1 rfl ?_
   exact qsZ
 ·rw[Oy a b i h1 h2 hl] at h3
  have hs1:=hs (a.length:Int) (b.length:Int)
  rw[<- h3] at hs1
  by_cases c:i<a.length
  ·have c1:(i:Int)<(a.length:Int):=by omega
   have c2:¬ (i:Int)<(b.length:Int):=by omega
   simp(disch:=try exact dI) only[c1,c2,push_cast,seval]
   refine ab.pure hs1 rfl ?_
   exact qsZ
  ·have c1:¬ (i:Int)<(a.length:Int):=by omega
   simp(disch:=try exact dI) only[c1,push_cast,seval]
   refine ab.pure hs1 rfl ?_
   exact qsZ
theorem Cz:∀ (n:Nat) (v:Val),SizeOf.sizeOf v<n->v.ok->ag Tryz.prog au 60 [v.pv,v.pv] (.int .i64 0):=by
 intro n
 induction n with
 | zero=>intro v h;omega
 | succ n ih=>
   intro v hn hv
   obtain⟨k,a,s,t,l,f⟩:=v
   rw[Val.ok_mk] at hv
   obtain⟨_,_,_,ht,hl,hlo,hf,hfo⟩:=hv
   have h68:=Hl t t ht ht
   rw[iL] at h68
   have hsl:=yX (f.length:Int) (f.length:Int)
   rw[show Hp (f.length:Int) (f.length:Int)=0 by unfold Hp;rw[if_neg (by omega),if_neg (by omega)]] at hsl
   have hL:∀ x∈l,ag Tryz.prog au 60 [x.pv,x.pv] (.int .i64 0):=fun x hx=>ih x (by have:=List.sizeOf_lt_of_mem hx;simp only[Val.mk.sizeOf_spec] at hn;omega) (hlo x hx)
   have hF:∀ x∈f,ag Tryz.prog au 68 [.str x.name,.str x.name] (.int .i64 0)/\ag Tryz.prog au 60 [x.value.pv,x.value.pv] (.int .i64 0):=fun x hx=>by
    have hxo:=hfo x hx
    obtain⟨nm,u⟩:=x
    rw[Fld.ok_mk] at hxo
    have h1:=Hl nm nm hxo.1 hxo.1
    rw[iL] at h1
    exact⟨h1,ih u (by have:=List.sizeOf_lt_of_mem hx;simp only[Val.mk.sizeOf_spec,Fld.mk.sizeOf_spec] at hn this;omega) hxo.2⟩
   clear ih hn
   simp only[Val.pv_mk]
   refine ag.intro Q60.2 (by simp[Q60]) ?_
   simp(disch:=try exact dI) only[Q60,push_cast,seval]
   refine ab.pure h68 rfl ?_
   refine zgZ ?_
   refine az ([]) (fun i:Nat=>[(6,.pv (.int .i64 (i:Int)))]) (fun _=>[]) (fun i=>i<=l.length) (fun i=>l.length - i) (0) ?_;intro e0 σ0 n0 h0;simp(disch:=try exact dI) only[push_cast,seval] at h0;obtain⟨rfl,rfl,rfl⟩:=h0;refine⟨?_,?_,?_⟩
   ·exact qsZ
   ·omega
   rintro i hi
   by_cases hlt:i<l.length
   ·have hltI:(i:Int)<(l.length:Int):=by omega
    obtain⟨x,hx⟩:∃ x,l[i]? = some x:=⟨_,List.getElem?_eq_getElem hlt⟩
    have hc:=hL x (List.mem_of_getElem? hx)
    obtain⟨xk,xn,xs,xt,xl,xf⟩:=x
    simp only[Val.pv_mk] at hc
    simp(disch:=try exact dI) only[hltI,hx,Option.map_some,Val.pv_mk,am,push_cast,seval]
    refine ab.pure hc rfl ?_
    refine zgZ ?_
    exact⟨i+1,aZ qsZ,by omega,by omega⟩
   ·have hltI:¬ (i:Int)<(l.length:Int):=by omega
    simp(disch:=try exact dI) only[hltI,push_cast,seval]
    refine az ([]) (fun j:Nat=>[(8,.pv (.int .i64 (j:Int)))]) (fun _=>[]) (fun j=>j<=f.length) (fun j=>f.length - j) (0) ?_;intro e0 σ0 n0 h0;simp(disch:=try exact dI) only[push_cast,seval] at h0;obtain⟨rfl,rfl,rfl⟩:=h0;refine⟨?_,?_,?_⟩
    ·exact qsZ
    ·omega
    rintro j hj
    by_cases hlj:j<f.length
    ·have hljI:(j:Int)<(f.length:Int):=by omega
     obtain⟨x,hx⟩:∃ x,f[j]? = some x:=⟨_,List.getElem?_eq_getElem hlj⟩
     obtain⟨c1,c2⟩:=hF x (List.mem_of_getElem? hx)
     obtain⟨nm,⟨xk,xn,xs,xt,xl,xf⟩⟩:=x
     simp only[Fld.name,Fld.value,Val.pv_mk] at c1 c2
     simp(disch:=try exact dI) only[hljI,hx,Option.map_some,Fld.pv_mk,Val.pv_mk,am,push_cast,seval]
     refine ab.pure c1 rfl ?_
     simp(disch:=try exact dI) only[hx,Option.map_some,Fld.pv_mk,Val.pv_mk,am,push_cast,seval]
     refine ab.pure c2 rfl ?_
     refine zgZ ?_
     exact⟨j+1,aZ qsZ,by omega,by omega⟩
    ·have hljI:¬ (j:Int)<(f.length:Int):=by omega
     simp(disch:=try exact dI) only[hljI,push_cast,seval]
     refine ab.pure hsl rfl ?_
     exact qsZ
theorem KW (v:Val)(hv:v.ok):ag Tryz.prog au 19 [v.pv,v.pv] (.bool true):=by
 have h:=Cz _ v (Nat.lt_succ_self _) hv
 obtain⟨k,a,s,t,l,f⟩:=v
 simp only[Val.pv_mk] at h ⊢
 refine ag.intro Q19.2 (by simp[Q19]) ?_
 simp(disch:=try exact dI) only[Q19,push_cast,seval]
 refine ab.pure h rfl ?_
 exact qsZ
def LY (x:Fld):List Fld->List Fld
 | []=>[x]
 | y::r=>if Lib.compareBytes y.name x.name<0 then y::LY x r else x::y::r
def HC:List Fld->List Fld
 | []=>[]
 | x::r=>if ba x.value=true then HC r else LY x (HC r)
theorem ky (x:Fld):∀ L:List Fld,(LY x L).Perm (x::L)
 | []=>List.Perm.refl _
 | y::r=>by
   rw[LY]
   split
   ·exact ((ky x r).cons y).trans (List.Perm.swap x y r)
   ·exact List.Perm.refl _
theorem gw:∀ l:List Fld,(HC l).Perm (l.filter bj)
 | []=>List.Perm.refl _
 | x::r=>by
   rw[HC,List.filter_cons]
   have hk:bj x=!ba x.value:=rfl
   cases hn:ba x.value with
   | true=>rw[if_pos rfl,hk,hn,if_neg (by decide)];exact gw r
   | false=>
     rw[if_neg (by decide),hk,hn,if_pos (by decide)]
     exact (ky x _).trans ((gw r).cons x)
theorem tY:∀ a b:List UInt8,Lib.compareBytes a b<0\/a=b\/Lib.compareBytes b a<0
 | [],[]=>.inr (.inl rfl)
 | [],_::_=>.inl (by simp[Lib.compareBytes])
 | _::_,[]=>.inr (.inr (by simp[Lib.compareBytes]))
 | x::p,y::q=>by
   simp only[Lib.compareBytes,UInt8.lt_iff_toNat_lt]
   by_cases h1:x.toNat<y.toNat
   ·exact .inl (by rw[if_pos h1];omega)
   ·by_cases h2:y.toNat<x.toNat
    ·exact .inr (.inr (by rw[if_pos h2];omega))
    ·have he:x=y:=UInt8.toNat_inj.1 (by omega)
     rw[if_neg h1,if_neg h2,if_neg h2,if_neg h1]
     rcases tY p q with h | h | h
     ·exact .inl h
     ·exact .inr (.inl (by rw[he,h]))
     ·exact .inr (.inr h)
def ltF (a b:Fld):Prop:=Lib.compareBytes a.name b.name<0
theorem kx (x:Fld):∀ L:List Fld,L.Pairwise ltF->(∀ y∈L,y.name≠x.name)->(LY x L).Pairwise ltF
 | [],_,_=>List.pairwise_singleton _ _
 | y::r,h,hn=>by
   rw[List.pairwise_cons] at h
   rw[LY]
   split
   ·rename_i hlt
    refine List.pairwise_cons.2 ⟨fun z hz=>?_,kx x r h.2 fun z hz=>hn z (List.mem_cons_of_mem _ hz)⟩
    rcases List.mem_cons.1 ((ky x r).mem_iff.1 hz) with rfl | hz
    ·exact hlt
    ·exact h.1 z hz
   ·rename_i hlt
    have hxy:ltF x y:=by
     rcases tY x.name y.name with h1 | h1 | h1
     ·exact h1
     ·exact absurd h1.symm (hn y (List.mem_cons_self ..))
     ·exact absurd h1 hlt
    refine List.pairwise_cons.2 ⟨fun z hz=>?_,List.pairwise_cons.2 h⟩
    rcases List.mem_cons.1 hz with rfl | hz
    ·exact hxy
    ·exact gS _ _ _ hxy (h.1 z hz)
theorem uU {l:List Fld}{y:Fld}(hy:y∈HC l):y∈l:=(List.mem_filter.1 ((gw l).mem_iff.1 hy)).1
theorem eq:∀ l:List Fld,dj l->(HC l).Pairwise ltF
 | [],_=>List.Pairwise.nil
 | x::r,h=>by
   unfold dj at h
   rw[List.map_cons,List.nodup_cons] at h
   rw[HC]
   split
   ·exact eq r h.2
   ·exact kx x _ (eq r h.2) fun y hy e=>h.1 (e▸List.mem_map_of_mem (uU hy))
theorem Ho {l fs:List Fld}(hp2:fs.Pairwise ltF)(hp0:l.Perm fs):srt l=fs:=by
 have hs:(srt l).Pairwise fun a b=>¬ Lib.compareBytes b.name a.name<0:=by
  rw[List.pairwise_iff_getElem]
  intro i j hi hj hij
  exact uN l i j _ _ hij (List.getElem?_eq_getElem hi) (List.getElem?_eq_getElem hj)
 have hpp:=(fl l).trans hp0
 refine List.Perm.eq_of_pairwise (le:=fun a b=>¬ Lib.compareBytes b.name a.name<0) ?_ hs (hp2.imp fun {a b} hab hba=>?_) hpp
 ·intro a b ha hb h1 h2
  have hb':=hb
  have ha':=hpp.mem_iff.1 ha
  obtain⟨i,hi,rfl⟩:=List.getElem_of_mem ha'
  obtain⟨j,hj,rfl⟩:=List.getElem_of_mem hb'
  have hpw:=List.pairwise_iff_getElem.1 hp2
  rcases Nat.lt_trichotomy i j with h | h | h
  ·exact absurd (hpw i j hi hj h) h2
  ·subst h;rfl
  ·exact absurd (hpw j i hj hi h) h1
 ·have:=gS _ _ _ hab hba
  rw[iL] at this
  exact absurd this (by decide)
theorem EI {l:List Fld}(h:dj l):srt (l.filter bj)=HC l:=Ho (eq l h) (gw l).symm
def eqL (p:PV->PV->Bool):List PV->List PV->Bool
 | [],[]=>true
 | x::r,y::q=>p x y&&eqL p r q
 | _,_=>false
def eqP:Nat->PV->PV->Bool
 | n+1,.int k a,.int k' b=>decide (k=k')&&decide (a=b)
 | n+1,.str a,.str b=>decide (a=b)
 | n+1,.nils,.nils=>true
 | n+1,.agg a,.agg b=>eqL (eqP n) a b
 | n+1,.list a,.list b=>eqL (eqP n) a b
 | _,_,_=>false
theorem Cb {p:PV->PV->Bool}(hp:∀ x y,p x y=true->x=y):∀ a b,eqL p a b=true->a=b
 | [],[],_=>rfl
 | x::r,y::q,h=>by
   simp only[eqL,Bool.and_eq_true] at h
   rw[hp x y h.1,Cb hp r q h.2]
 | [],y::q,h=>by simp[eqL] at h
 | x::r,[],h=>by simp[eqL] at h
theorem pj:∀ n x y,eqP n x y=true->x=y
 | 0,x,y,h=>by simp[eqP] at h
 | n+1,x,y,h=>by
   unfold eqP at h
   split at h
   ·simp only[Bool.and_eq_true,decide_eq_true_eq] at h;rw[h.1,h.2]
   ·simp only[decide_eq_true_eq] at h;rw[h]
   ·rfl
   ·rw[Cb (pj _) _ _ h]
   ·rw[Cb (pj _) _ _ h]
   ·cases h
def NQ:List PV:=[.agg [.int .i64 1,.str [105,100],.int .i64 1,.int .i64 2,.int .i64 0,.int .i64 999,.int .i64 0,.nils,.nils,.nils,.nils],.agg [.int .i64 2,.str [110,97,109,101],.int .i64 2,.int .i64 4,.int .i64 1,.int .i64 5,.int .i64 0,.nils,.nils,.nils,.nils],.agg [.int .i64 3,.str [100,97,121],.int .i64 1,.int .i64 6,.int .i64 0,.int .i64 30000,.int .i64 0,.nils,.nils,.nils,.nils]]
def Pt:PV:=.agg [.int .i64 9,.int .i64 0,.int .i64 0,.int .i64 0,.nils,.nils,.list NQ]
def Sh:List PV:=[.agg [.str [105,100],.int .i64 2,.int .i64 7,.int .i64 0,.str [],.nils,.nils],.agg [.str [110,97,109,101],.int .i64 4,.int .i64 0,.int .i64 0,.str [97,98],.nils,.nils],.agg [.str [100,97,121],.int .i64 6,.int .i64 20773,.int .i64 0,.str [],.nils,.nils]]
def NP:PV:=.agg [.int .i64 9,.int .i64 0,.int .i64 0,.str [],.nils,.list [.agg [.str [100,97,121],.int .i64 6,.int .i64 20773,.int .i64 0,.str [],.nils,.nils],.agg [.str [105,100],.int .i64 2,.int .i64 7,.int .i64 0,.str [],.nils,.nils],.agg [.str [110,97,109,101],.int .i64 4,.int .i64 0,.int .i64 0,.str [97,98],.nils,.nils]]]
def Kq:PV:=.str [32,32,55,97,98,32,32,32,50,48,50,54,45,49,49,45,49,54]
def Ms:PV:=.list [.int .i64 3,.int .i64 5,.int .i64 10]
def Qf (f:Nat)(ps:List PV):Option PV:=
 match f with
 | 137=>match ps with
   | [.int .i64 n]=>if -9223372036854775808<=n/\n<=9223372036854775807 then some (.str (fX n)) else none
   | _=>none
 | 113=>match ps with
   | [.str a,.str b]=>some (.int .i64 (Lib.compareBytes a b))
   | _=>none
 | 207=>match ps with
   | [.str a]=>some (.bool (Lib.validD a))
   | _=>none
 | 45=>match ps with
   | [.str a,.int .i64 n]=>if 0<=n/\n<=9223372036854775807/\a.length*n.toNat<=140737488355328 then some (.str (Lib.repeatL a n.toNat)) else none
   | _=>none
 | _=>none
theorem iq:∀ f ps r,Qf f ps=some r->ag Tryz.prog au f ps r:=by
 intro f ps r h
 unfold Qf at h
 split at h
 ·split at h
  ·split at h
   ·rename_i hh;cases h;exact rx _ hh.1 hh.2
   ·cases h
  ·cases h
 ·split at h
  ·cases h;exact wV _ _
  ·cases h
 ·split at h
  ·cases h;exact dy _
  ·cases h
 ·split at h
  ·split at h
   ·rename_i hh;cases h;exact jW _ _ hh.1 hh.2.1 hh.2.2
   ·cases h
  ·cases h
 ·cases h
noncomputable def gFn (p:Nat×List Nat):TabRow:=⟨p.1,p.2,(cFn Tryz.prog p.2 p.1).getD ⟨0,[],.skip⟩⟩
theorem lL {l:List (Nat×List Nat)}(h:(l.all fun p=>(cFn Tryz.prog p.2 p.1).isSome)=true):∀ r∈l.map gFn,cFn Tryz.prog r.muts r.f=some r.fn:=by
 intro r hr
 obtain⟨p,hp,rfl⟩:=List.mem_map.1 hr
 have h:=List.all_eq_true.1 h p hp
 simp only[gFn]
 cases h':cFn Tryz.prog p.2 p.1 with
 | some x=>rfl
 | none=>rw[h'] at h;cases h
def Hv:List (Nat×List Nat):=[(14,[]),(11,[]),(12,[]),(42,[]),(43,[]),(44,[]),(39,[]),(46,[14]),(47,[]),(23,[]),(33,[]),(53,[]),(55,[33]),(34,[]),(35,[]),(36,[]),(37,[]),(81,[]),(82,[]),(83,[]),(85,[]),(87,[]),(88,[]),(91,[]),(92,[]),(77,[]),(78,[]),(79,[]),(97,[19]),(105,[]),(106,[]),(107,[]),(108,[]),(109,[]),(110,[]),(111,[]),(112,[]),(69,[]),(74,[]),(76,[]),(135,[]),(136,[]),(138,[]),(139,[]),(140,[]),(141,[]),(142,[]),(143,[]),(145,[]),(146,[]),(132,[]),(133,[]),(149,[]),(156,[]),(160,[]),(164,[]),(165,[]),(166,[]),(168,[]),(170,[]),(171,[]),(123,[]),(124,[]),(129,[]),(130,[]),(195,[]),(193,[]),(196,[]),(197,[]),(198,[]),(199,[]),(206,[44]),(210,[]),(211,[]),(212,[]),(213,[]),(215,[]),(224,[]),(258,[]),(228,[]),(178,[]),(179,[]),(181,[]),(242,[]),(247,[]),(248,[12]),(250,[]),(251,[]),(252,[]),(229,[]),(230,[]),(232,[]),(277,[]),(278,[]),(259,[]),(304,[])]
theorem lM:(Hv.all fun p=>(cFn Tryz.prog p.2 p.1).isSome)=true:=by kernel_rfl
theorem Ol:ag Tryz.prog au 53 [.str [32,32,55],NQ.getD 0 .undef] (.tup [.agg [.int .i64 2,.int .i64 7,.int .i64 0,.str [],.nils,.nils],.int .i64 0]):=ag.of_ex (m:=5000) (n:=60) (lL lM) iq (by kernel_rfl)
theorem Ok:ag Tryz.prog au 53 [.str [97,98,32,32,32],NQ.getD 1 .undef] (.tup [.agg [.int .i64 4,.int .i64 0,.int .i64 0,.str [97,98],.nils,.nils],.int .i64 0]):=ag.of_ex (m:=5000) (n:=60) (lL lM) iq (by kernel_rfl)
theorem Oj:ag Tryz.prog au 53 [.str [50,48,50,54,45,49,49,45,49,54],NQ.getD 2 .undef] (.tup [.agg [.int .i64 6,.int .i64 20773,.int .i64 0,.str [],.nils,.nils],.int .i64 0]):=ag.of_ex (m:=5000) (n:=60) (lL lM) iq (by kernel_rfl)
theorem EF:ag Tryz.prog au 55 [.list Sh] NP:=ag.of_ex (m:=5000) (n:=60) (lL lM) iq (by kernel_rfl)
theorem M6:ag Tryz.prog au 12 [Pt,Ms] (.int .i64 0):=ag.of_ex (m:=5000) (n:=60) (lL lM) iq (by kernel_rfl)
theorem B6 (a:Int):bf Tryz.prog au 1 54 [.ptr 0 0,.pv (.int .i64 a),.pv (.int .i64 0)] [.cells 94 true [.pv (.int .i64 0),.pv (.int .i64 0)]] (.pv (.tup [])) [.cells 94 true [.pv (.int .i64 0),.pv (.int .i64 0)]]:=by
 refine bf.intro Q54.2 (by simp[Q54]) ?_
 simp(maxSteps:=9^7) (disch:=try exact dI) only[Q54,push_cast,seval]
 exact aG [] qsZ
theorem rF1 (sz:Nat)(l:List PV):fB sz l 1=eM sz l 1 l[1]?:=_root_.id rfl
theorem rF2 (sz:Nat)(l:List PV):fB sz l 2=eM sz l 2 l[2]?:=_root_.id rfl
theorem nt (cs:List PV):bp [PV.agg cs]=cs.map AV.pv:=by simp[bp,PV.cells]
def fc0:List PV:=[.str [105,100],.int .i64 2,.int .i64 7,.int .i64 0,.str [],.nils,.nils]
def fc1:List PV:=[.str [110,97,109,101],.int .i64 4,.int .i64 0,.int .i64 0,.str [97,98],.nils,.nils]
def fc2:List PV:=[.str [100,97,121],.int .i64 6,.int .i64 20773,.int .i64 0,.str [],.nils,.nils]
def LQ (i:Nat):List AV:=((if i=0 then [] else if i=1 then fc0 else if i=2 then fc0++fc1 else fc0++(fc1++fc2)):List PV).map .pv
theorem Hy:LQ 0=[]:=rfl
theorem Hx:LQ 1=fc0.map .pv:=rfl
theorem Hw:LQ 2=(fc0++fc1).map .pv:=rfl
theorem MY:LQ 3=(fc0++(fc1++fc2)).map .pv:=rfl
theorem Sg:KH 7 3 5 (.cells 60 false (LQ 3))=some (.list [.agg fc0,.agg fc1,.agg fc2],[5]):=by kernel_rfl
theorem GB:ag Tryz.prog au 17 [Pt,Ms,Kq] (.tup [NP,.int .i64 0,.int .i64 0]):=by
 have h20:=M6
 have h35:=p8 [3,5,10] (by decide)
 rw[show GQ [3,5,10]=false by decide,if_neg (by decide),if_neg (by decide),show je [3,5,10]=18 from rfl,show PV.list (bJ [3,5,10])=Ms from rfl] at h35
 have h36:=BP [32,32,55,97,98,32,32,32,50,48,50,54,45,49,49,45,49,54] 18
 rw[show iC ([32,32,55,97,98,32,32,32,50,48,50,54,45,49,49,45,49,54]:List UInt8).length 18=0 from rfl] at h36
 have h37:=CS [32,32,55,97,98,32,32,32,50,48,50,54,45,49,49,45,49,54] (cS [3,5,10])
 have hseq:=pw [32,32,55,97,98,32,32,32,50,48,50,54,45,49,49,45,49,54] [3,5,10] (by decide) (by decide) (by decide)
 have ha:ag Tryz.prog au 53 [.str [32,32,55],.agg [.int .i64 1,.str [105,100],.int .i64 1,.int .i64 2,.int .i64 0,.int .i64 999,.int .i64 0,.nils,.nils,.nils,.nils]] (.tup [.agg [.int .i64 2,.int .i64 7,.int .i64 0,.str [],.nils,.nils],.int .i64 0]):=Ol
 have hb:ag Tryz.prog au 53 [.str [97,98,32,32,32],.agg [.int .i64 2,.str [110,97,109,101],.int .i64 2,.int .i64 4,.int .i64 1,.int .i64 5,.int .i64 0,.nils,.nils,.nils,.nils]] (.tup [.agg [.int .i64 4,.int .i64 0,.int .i64 0,.str [97,98],.nils,.nils],.int .i64 0]):=Ok
 have hc:ag Tryz.prog au 53 [.str [50,48,50,54,45,49,49,45,49,54],.agg [.int .i64 3,.str [100,97,121],.int .i64 1,.int .i64 6,.int .i64 0,.int .i64 30000,.int .i64 0,.nils,.nils,.nils,.nils]] (.tup [.agg [.int .i64 6,.int .i64 20773,.int .i64 0,.str [],.nils,.nils],.int .i64 0]):=Oj
 have hr:ag Tryz.prog au 55 [.list [.agg fc0,.agg fc1,.agg fc2]] NP:=EF
 have hi0:(du [32,32,55,97,98,32,32,32,50,48,50,54,45,49,49,45,49,54] [3,5,10])[0]? = some [.int .i64 0,.str [32,32,55]]:=by kernel_rfl
 have hi1:(du [32,32,55,97,98,32,32,32,50,48,50,54,45,49,49,45,49,54] [3,5,10])[1]? = some [.int .i64 3,.str [97,98,32,32,32]]:=by kernel_rfl
 have hi2:(du [32,32,55,97,98,32,32,32,50,48,50,54,45,49,49,45,49,54] [3,5,10])[2]? = some [.int .i64 8,.str [50,48,50,54,45,49,49,45,49,54]]:=by kernel_rfl
 have hlx:(du [32,32,55,97,98,32,32,32,50,48,50,54,45,49,49,45,49,54] [3,5,10]).length=3:=rfl
 generalize hX:du [32,32,55,97,98,32,32,32,50,48,50,54,45,49,49,45,49,54] [3,5,10]=X at *
 have hw:Ms = .list (cS [3,5,10]):=rfl
 simp only[Kq]
 refine ag.intro Q17.2 (by simp[Q17]) ?_
 simp(maxSteps:=9^7) (disch:=try exact dI) only[Q17,Pt,NQ,push_cast,seval]
 refine ab.pure h20 rfl ?_
 simp(maxSteps:=9^7) (disch:=try exact dI) only[push_cast,seval]
 refine ab.pure h35 rfl ?_
 simp(maxSteps:=9^7) (disch:=try exact dI) only[push_cast,seval]
 refine ab.pure h36 rfl ?_
 simp(maxSteps:=9^7) (disch:=try exact dI) only[push_cast,seval]
 refine ab.pure h37 rfl ?_
 simp(maxSteps:=9^7) (disch:=try exact dI) only[push_cast,seval]
 refine sd ([(14,1,1000060,7)]) (fun i:Nat=>[]) (fun i:Nat=>[(2,.cells 34 true [.row 5 7 0 i]),(3,.cells 3 true [.pv (.int .i64 (i:Int))]),(5,.cells 60 false (LQ i))]) (fun j i=>j=i/\i<=3) (0) (hseq) ?_;intro e0 σ0 n0 h0;simp(maxSteps:=9^7) (disch:=try exact dI) only[push_cast,seval] at h0;obtain⟨rfl,rfl,rfl⟩:=h0;refine⟨?_,?_,?_,?_,?_⟩
 ·simp(maxSteps:=9^7) (disch:=try exact dI) only[Hy,push_cast,seval]
 ·exact⟨rfl,by omega⟩
 ·rfl
 ·rintro j i y hy ⟨hij,hi⟩
  subst hij
  have hj3:j<3:=by have:=(List.getElem?_eq_some_iff.1 hy).1;omega
  have hjc:j=0\/j=1\/j=2:=by omega
  clear hr h20 h35 h36 h37 hseq
  rcases hjc with rfl | rfl | rfl
  ·rw[hi0] at hy
   obtain rfl:=Option.some.inj hy
   refine⟨rfl,?_⟩
   simp(maxSteps:=9^7) (disch:=try exact dI) only[Hy,aF,push_cast,seval]
   refine ab.pure ha rfl ?_
   simp(maxSteps:=9^7) (disch:=try exact dI) only[push_cast,seval]
   refine ab.lentK (B6 0) [4] rfl qsZ qsZ ?_
   simp(maxSteps:=9^7) (disch:=try exact dI) only[aF,nt,List.map_cons,List.map_nil,List.cons_append,List.nil_append,List.drop_succ_cons,List.drop_zero,push_cast,seval]
   exact⟨1,aZ (by simp(maxSteps:=9^7) (disch:=try exact dI) only[Hx,fc0,push_cast,seval]),rfl,by omega⟩
  ·rw[hi1] at hy
   obtain rfl:=Option.some.inj hy
   refine⟨rfl,?_⟩
   simp(maxSteps:=9^7) (disch:=try exact dI) only[Hx,fc0,rF1,push_cast,seval]
   refine ab.pure hb rfl ?_
   simp(maxSteps:=9^7) (disch:=try exact dI) only[push_cast,seval]
   refine ab.lentK (B6 3) [4] rfl qsZ qsZ ?_
   simp(maxSteps:=9^7) (disch:=try exact dI) only[rF1,nt,List.map_cons,List.map_nil,List.cons_append,List.nil_append,List.drop_succ_cons,List.drop_zero,push_cast,seval]
   exact⟨2,aZ (by simp(maxSteps:=9^7) (disch:=try exact dI) only[Hw,fc0,fc1,push_cast,seval]),rfl,by omega⟩
  ·rw[hi2] at hy
   obtain rfl:=Option.some.inj hy
   refine⟨rfl,?_⟩
   simp(maxSteps:=9^7) (disch:=try exact dI) only[Hw,fc0,fc1,rF2,push_cast,seval]
   refine ab.pure hc rfl ?_
   simp(maxSteps:=9^7) (disch:=try exact dI) only[push_cast,seval]
   refine ab.lentK (B6 8) [4] rfl qsZ qsZ ?_
   simp(maxSteps:=9^7) (disch:=try exact dI) only[rF2,nt,List.map_cons,List.map_nil,List.cons_append,List.nil_append,List.drop_succ_cons,List.drop_zero,push_cast,seval]
   exact⟨3,aZ (by simp(maxSteps:=9^7) (disch:=try exact dI) only[MY,fc0,fc1,fc2,push_cast,seval]),rfl,by omega⟩
 ·rintro j ⟨hj,hi⟩
  rw[hlx] at hj
  subst hj
  simp(maxSteps:=9^7) (disch:=try exact dI) only[Sg,push_cast,seval]
  refine ab.pure hr rfl ?_
  simp(maxSteps:=9^7) (disch:=try exact dI) only[NP,push_cast,seval]
end Go.Proofs.YtbojpfpliibfbaaGreatDoor
