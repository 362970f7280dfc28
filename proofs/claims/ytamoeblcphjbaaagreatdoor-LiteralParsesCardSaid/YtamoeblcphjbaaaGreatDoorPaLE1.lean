/- A part of the proof. -/
import Derived.Test.YtamoeblcphjbaaaGreatDoorPaMQ6
import Derived.Lib.ValidLaws
set_option maxHeartbeats 16000000
set_option maxRecDepth 100000
set_option linter.unusedVariables false
set_option linter.unusedSimpArgs false
-- many steps
namespace Go.Proofs.YtamoeblcphjbaaaGreatDoor
open Go Go.Ab
attribute [local irreducible] vc
def xA (x y:Int):Int:=if x<y then -1 else if y<x then 1 else 0
def orI:List Int→Int
 | []=>0
 | x::r=>if x=0 then orI r else x
def eF {α:Type}(c:α→α→Int):List α→List α→Int
 | [],[]=>0
 | [],_::_=>-1
 | _::_,[]=>1
 | x::r,y::q=>if c x y=0 then eF c r q else c x y
def Kj (c:Val→Val→Int)(x y:Fld):Int:=orI [Lib.compareBytes x.name y.name,c x.value y.value]
def qu:Nat→Val→Val→Int
 | 0=>fun _ _=>0
 | n+1=>fun a b=>orI [xA a.kind b.kind,xA a.num b.num,xA a.scale b.scale,Lib.compareBytes a.text b.text,eF (qu n) a.lst b.lst,eF (Kj (qu n)) a.fields b.fields]
theorem ld {x y:Int}:xA x y=0↔x=y:=by
 unfold xA;constructor
 ·intro h;split at h;· omega
  split at h<;>omega
 ·rintro rfl;rw[if_neg (by omega),if_neg (by omega)]
theorem m5:∀ l:List Int,orI l=0↔∀ x∈l,x=0
 | []=>by simp[orI]
 | x::r=>by
   rw[orI]
   by_cases h:x=0
   ·rw[if_pos h,m5 r];simp[h]
   ·rw[if_neg h];simp[h]
theorem iU:∀ a b:List UInt8,Lib.compareBytes a b=0↔a=b
 | [],[]=>by simp[Lib.compareBytes]
 | [],_::_=>by simp[Lib.compareBytes]
 | _::_,[]=>by simp[Lib.compareBytes]
 | a::r,b::q=>by
   have ih:=iU r q
   rw[Lib.compareBytes]
   by_cases h1:a<b
   ·have:¬ a=b:=by rintro rfl;exact (UInt8.lt_irrefl a) h1
    simp[h1,this]
   ·by_cases h2:b<a
    ·have:¬ a=b:=by rintro rfl;exact (UInt8.lt_irrefl a) h2
     simp[h1,h2,this]
    ·have h3:a=b:=UInt8.le_antisymm (UInt8.not_lt.1 h2) (UInt8.not_lt.1 h1)
     simp[h1,h2,h3,ih]
theorem kB {α:Type}{c:α→α→Int}:∀ (l k:List α),(∀ x∈l,∀ y,c x y=0↔x=y)→(eF c l k=0↔l=k)
 | [],[],_=>by simp[eF]
 | [],_::_,_=>by simp[eF]
 | _::_,[],_=>by simp[eF]
 | x::r,y::q,h=>by
   have ih:=kB r q (fun z hz=>h z (by simp[hz]))
   have h1:=h x (by simp) y
   rw[eF]
   by_cases h0:c x y=0
   ·rw[if_pos h0,ih];simp[h1.1 h0]
   ·rw[if_neg h0]
    constructor
    ·intro hh;exact absurd hh h0
    ·intro hh;cases hh;exact absurd (h1.2 rfl) h0
theorem G8 (x:Int):au Tryz.prog aM 173 [.int .i64 x] (.bool false):=by
 refine au.intro La (by simp[Sg]) ?_
 simp(disch:=try exact dI) only[Sg,eq_self,push_cast,seval]
theorem Cb (x y:Int):au Tryz.prog aM 102 [.int .i64 x,.int .i64 y] (.int .i64 (xA x y)):=by
 refine au.intro LW (by simp[Sx]) ?_
 simp(disch:=try exact dI) only[Sx,push_cast,seval]
 refine ab.pure (G8 x) rfl ?_
 refine zgZ ?_
 refine ab.pure (G8 y) rfl ?_
 by_cases h1:x<y
 ·simp(disch:=try exact dI) only[xA,h1,push_cast,seval]
 ·by_cases h2:y<x
  ·simp(disch:=try exact dI) only[xA,h1,h2,push_cast,seval]
  ·simp(disch:=try exact dI) only[xA,h1,h2,push_cast,seval]
theorem NB (l:List Int)(hl:l.length≤1000):au Tryz.prog aM 101 [.list (l.map (PV.int .i64))] (.int .i64 (orI l)):=by
 refine au.intro LX (by simp[Sy]) ?_
 simp(disch:=try exact dI) only[Sy,push_cast,seval]
 refine bf ([]) (fun i:Nat=>[(8,.pv (.int .i64 (i:Int)))]) (fun _=>[]) (fun i=>i≤l.length∧orI l=orI (l.drop i)) (fun i=>l.length - i) (0) ?_;intro e0 σ0 n0 h0;simp(disch:=try exact dI) only[push_cast,seval] at h0;obtain⟨rfl,rfl,rfl⟩:=h0;refine⟨?_,?_,?_⟩
 ·exact qsZ
 ·exact⟨Nat.zero_le _,rfl⟩
 rintro i ⟨hi,hpre⟩
 by_cases hlt:i<l.length
 ·have hltI:(i:Int)<l.length:=by omega
  obtain⟨x,hx⟩:∃ x,l[i]? = some x:=⟨l[i],List.getElem?_eq_getElem hlt⟩
  have hd:=aP hx
  by_cases h0:x=0
  ·simp(disch:=try exact dI) only[hx,h0,eq_self,push_cast,seval]
   exact⟨i+1,bz qsZ,⟨by omega,by rw[hpre,hd,orI,if_pos h0]⟩,by omega⟩
  ·simp(disch:=try exact dI) only[hx,h0,push_cast,seval]
   rw[hpre,hd,orI,if_neg h0]
 ·have hltI:¬ (i:Int)<l.length:=by omega
  refine zgZ ?_
  rw[hpre,List.drop_eq_nil_of_le (by omega)];rfl
theorem A6 {α:Type}{c:α→α→Int}{l k:List α}{i:Nat}{x y:α}(h:eF c l k=eF c (l.drop i) (k.drop i))(hx:l[i]? = some x)(hy:k[i]? = some y)(h0:c x y=0):eF c l k=eF c (l.drop (i+1)) (k.drop (i+1)):=by
 rw[h,aP hx,aP hy,eF,if_pos h0]
theorem t8 {α:Type}{c:α→α→Int}{l k:List α}{i:Nat}{x y:α}(h:eF c l k=eF c (l.drop i) (k.drop i))(hx:l[i]? = some x)(hy:k[i]? = some y)(h0:¬ c x y=0):eF c l k=c x y:=by
 rw[h,aP hx,aP hy,eF,if_neg h0]
theorem pr {α:Type}{c:α→α→Int}{l k:List α}{i:Nat}{x:α}(h:eF c l k=eF c (l.drop i) (k.drop i))(hx:l[i]? = some x)(hy:¬ i<k.length):eF c l k=1:=by
 have e:k.drop i=[]:=List.drop_eq_nil_of_le (by omega)
 rw[h,aP hx,e,eF]
theorem pu {α:Type}{c:α→α→Int}{l k:List α}(h:eF c l k=eF c (l.drop l.length) (k.drop l.length))(hk:l.length<k.length):eF c l k = -1:=by
 obtain⟨y,hy⟩:∃ y,k[l.length]? = some y:=⟨_,List.getElem?_eq_getElem hk⟩
 rw[h,aP hy,List.drop_length,eF]
theorem ua {α:Type}{c:α→α→Int}{l k:List α}(h:eF c l k=eF c (l.drop l.length) (k.drop l.length))(hk:¬ l.length<k.length):eF c l k=0:=by
 rw[h,List.drop_length,List.drop_eq_nil_of_le (by omega),eF]
theorem wX (l k:List Val)(g:Nat)(c:Val→Val→Int)(hg:∀ x∈l,∀ y∈k,au Tryz.prog aM g [x.pv,y.pv] (.int .i64 (c x y)))(hl:l.length≤9000000000000)(hk:k.length≤9000000000000):au Tryz.prog aM 104 [.list (l.map Val.pv),.list (k.map Val.pv),.clo g [] []] (.int .i64 (eF c l k)):=by
 refine au.intro LV (by simp[Sw]) ?_
 generalize hR:eF c l k=R
 simp(disch:=try exact dI) only[Sw,push_cast,seval]
 refine bf ([]) (fun m:Nat=>[(13,.pv (.int .i64 (m:Int)))]) (fun m=>[]) (fun m=>m≤l.length∧m≤k.length∧eF c l k=eF c (l.drop m) (k.drop m)) (fun m=>l.length - m) (0) ?_;intro e0 σ0 n0 h0;simp(disch:=try exact dI) only[push_cast,seval] at h0;obtain⟨rfl,rfl,rfl⟩:=h0;refine⟨?_,?_,?_⟩
 ·exact qsZ
 ·exact⟨Nat.zero_le _,Nat.zero_le _,rfl⟩
 ·rintro m ⟨hm,hm2,he⟩
  by_cases hlt:m<l.length
  ·have hltI:(m:Int)<l.length:=by omega
   obtain⟨x,hx⟩:∃ x,l[m]? = some x:=⟨_,List.getElem?_eq_getElem hlt⟩
   by_cases hlt2:m<k.length
   ·have hlt2I:(m:Int)<k.length:=by omega
    obtain⟨y,hy⟩:∃ y,k[m]? = some y:=⟨_,List.getElem?_eq_getElem hlt2⟩
    have hcall:=hg x (List.mem_of_getElem? hx) y (List.mem_of_getElem? hy)
    have hgo:=A6 he hx hy
    have hhit:=t8 he hx hy
    generalize c x y=C at *
    obtain⟨w1,w2,w3,w4,w5,w6⟩:=x
    obtain⟨z1,z2,z3,z4,z5,z6⟩:=y
    rw[Val.pv_mk,Val.pv_mk] at hcall
    simp(disch:=try exact dI) only[hx,hy,Val.pv_mk,push_cast,seval]
    refine ab.pure hcall rfl ?_
    by_cases h0:C=0
    ·subst h0
     refine zgZ ?_
     exact⟨m+1,bz qsZ,⟨by omega,by omega,hgo rfl⟩,by omega⟩
    ·simp(disch:=try exact dI) only[h0,push_cast,seval]
     rw[← hR,hhit h0]
   ·have hlt2I:¬ (m:Int)<k.length:=by omega
    rw[pr he hx hlt2] at hR
    subst hR
    obtain⟨w1,w2,w3,w4,w5,w6⟩:=x
    simp(disch:=try exact dI) only[hx,Val.pv_mk,push_cast,seval]
  ·have hltI:¬ (m:Int)<l.length:=by omega
   obtain rfl:m=l.length:=by omega
   by_cases hk2:l.length<k.length
   ·have hk2I:(l.length:Int)<k.length:=by omega
    rw[pu he hk2] at hR
    subst hR
    exact qsZ
   ·have hk2I:¬ (l.length:Int)<k.length:=by omega
    rw[ua he hk2] at hR
    subst hR
    exact qsZ
theorem wW (l k:List Fld)(g:Nat)(c:Fld→Fld→Int)(hg:∀ x∈l,∀ y∈k,au Tryz.prog aM g [x.pv,y.pv] (.int .i64 (c x y)))(hl:l.length≤9000000000000)(hk:k.length≤9000000000000):au Tryz.prog aM 105 [.list (l.map Fld.pv),.list (k.map Fld.pv),.clo g [] []] (.int .i64 (eF c l k)):=by
 refine au.intro LU (by simp[Sv]) ?_
 generalize hR:eF c l k=R
 simp(disch:=try exact dI) only[Sv,push_cast,seval]
 refine bf ([]) (fun m:Nat=>[(13,.pv (.int .i64 (m:Int)))]) (fun m=>[]) (fun m=>m≤l.length∧m≤k.length∧eF c l k=eF c (l.drop m) (k.drop m)) (fun m=>l.length - m) (0) ?_;intro e0 σ0 n0 h0;simp(disch:=try exact dI) only[push_cast,seval] at h0;obtain⟨rfl,rfl,rfl⟩:=h0;refine⟨?_,?_,?_⟩
 ·exact qsZ
 ·exact⟨Nat.zero_le _,Nat.zero_le _,rfl⟩
 ·rintro m ⟨hm,hm2,he⟩
  by_cases hlt:m<l.length
  ·have hltI:(m:Int)<l.length:=by omega
   obtain⟨x,hx⟩:∃ x,l[m]? = some x:=⟨_,List.getElem?_eq_getElem hlt⟩
   by_cases hlt2:m<k.length
   ·have hlt2I:(m:Int)<k.length:=by omega
    obtain⟨y,hy⟩:∃ y,k[m]? = some y:=⟨_,List.getElem?_eq_getElem hlt2⟩
    have hcall:=hg x (List.mem_of_getElem? hx) y (List.mem_of_getElem? hy)
    have hgo:=A6 he hx hy
    have hhit:=t8 he hx hy
    generalize c x y=C at *
    obtain⟨w0,⟨w1,w2,w3,w4,w5,w6⟩⟩:=x
    obtain⟨z0,⟨z1,z2,z3,z4,z5,z6⟩⟩:=y
    simp only[Fld.pv_mk,Val.pv_mk] at hcall
    simp(disch:=try exact dI) only[hx,hy,Fld.pv_mk,Val.pv_mk,push_cast,seval]
    refine ab.pure hcall rfl ?_
    by_cases h0:C=0
    ·subst h0
     refine zgZ ?_
     exact⟨m+1,bz qsZ,⟨by omega,by omega,hgo rfl⟩,by omega⟩
    ·simp(disch:=try exact dI) only[h0,push_cast,seval]
     rw[← hR,hhit h0]
   ·have hlt2I:¬ (m:Int)<k.length:=by omega
    rw[pr he hx hlt2] at hR
    subst hR
    obtain⟨w0,⟨w1,w2,w3,w4,w5,w6⟩⟩:=x
    simp(disch:=try exact dI) only[hx,Fld.pv_mk,Val.pv_mk,push_cast,seval]
  ·have hltI:¬ (m:Int)<l.length:=by omega
   obtain rfl:m=l.length:=by omega
   by_cases hk2:l.length<k.length
   ·have hk2I:(l.length:Int)<k.length:=by omega
    rw[pu he hk2] at hR
    subst hR
    exact qsZ
   ·have hk2I:¬ (l.length:Int)<k.length:=by omega
    rw[ua he hk2] at hR
    subst hR
    exact qsZ
theorem OJ (n:Nat)(ih:∀ a b,mI n a→a.ok→b.ok→au Tryz.prog aM 48 [a.pv,b.pv] (.int .i64 (qu n a b)))(x y:Fld)(hx:mI n x.value)(hxo:x.ok)(hyo:y.ok):au Tryz.prog aM 106 [x.pv,y.pv] (.int .i64 (Kj (qu n) x y)):=by
 obtain⟨xn,xv⟩:=x
 obtain⟨yn,yv⟩:=y
 rw[Fld.ok_mk] at hxo hyo
 simp only[Fld.value] at hx
 have hcall:=ih xv yv hx hxo.2 hyo.2
 have h102:=iS xn yn
 simp only[Kj,Fld.name,Fld.value]
 have h130:=NB [Lib.compareBytes xn yn,qu n xv yv] (by simp)
 generalize qu n xv yv=C at *
 generalize Lib.compareBytes xn yn=D at *
 obtain⟨w1,w2,w3,w4,w5,w6⟩:=xv
 obtain⟨z1,z2,z3,z4,z5,z6⟩:=yv
 simp only[Val.pv_mk] at hcall
 refine au.intro LT (by simp[Su]) ?_
 simp(disch:=try exact dI) only[Su,Fld.pv_mk,Val.pv_mk,push_cast,seval]
 refine ag h102 rfl ?_
 refine zgZ ?_
 refine ab.pure hcall rfl ?_
 refine zgZ ?_
 refine ab.pure h130 rfl ?_
 exact qsZ
theorem mD:∀ (n:Nat) (a b:Val),mI n a→a.ok→b.ok→au Tryz.prog aM 48 [a.pv,b.pv] (.int .i64 (qu n a b))
 | 0,a,b,h,_,_=>h.elim
 | n+1,a,b,hd,ha,hb=>by
   have ih:=mD n
   obtain⟨w1,w2,w3,w4,w5,w6⟩:=a
   obtain⟨z1,z2,z3,z4,z5,z6⟩:=b
   simp only[mI] at hd
   obtain⟨d4,d5⟩:=hd
   rw[Val.ok_mk] at ha hb
   obtain⟨a1,a2,a3,a4,a5,a7,a6,a8⟩:=ha
   obtain⟨b1,b2,b3,b4,b5,b7,b6,b8⟩:=hb
   have h132:=wX w5 z5 48 (qu n) (fun x hx y hy=>ih x y (d4 x hx) (a7 x hx) (b7 y hy)) (by omega) (by omega)
   have h133:=wW w6 z6 106 (Kj (qu n)) (fun x hx y hy=>OJ n ih x y (d5 x hx) (a8 x hx) (b8 y hy)) (by omega) (by omega)
   have h1:=Cb w1 z1
   have h2:=Cb w2 z2
   have h3:=Cb w3 z3
   have h4:=iS w4 z4
   simp only[qu,Val.kind,Val.num,Val.scale,Val.text,Val.lst,Val.fields]
   generalize eF (qu n) w5 z5=C5 at *
   generalize eF (Kj (qu n)) w6 z6=C6 at *
   generalize xA w1 z1=C1 at *
   generalize xA w2 z2=C2 at *
   generalize xA w3 z3=C3 at *
   generalize Lib.compareBytes w4 z4=C4 at *
   have h130:=NB [C1,C2,C3,C4,C5,C6] (by simp)
   refine au.intro PH (by simp[F48]) ?_
   simp(disch:=try exact dI) only[F48,Val.pv_mk,push_cast,seval]
   refine ag h1 rfl ?_
   refine zgZ ?_
   refine ag h2 rfl ?_
   refine zgZ ?_
   refine ag h3 rfl ?_
   refine zgZ ?_
   refine ag h4 rfl ?_
   refine zgZ ?_
   refine ag h132 rfl ?_
   refine zgZ ?_
   refine ab.pure h133 rfl ?_
   refine zgZ ?_
   refine ab.pure h130 rfl ?_
   exact qsZ
theorem Ca {c:Val→Val→Int}{x:Fld}(h:∀ y,c x.value y=0↔x.value=y)(y:Fld):Kj c x y=0↔x=y:=by
 obtain⟨a,v⟩:=x
 obtain⟨b,w⟩:=y
 unfold Kj
 rw[m5]
 simp only[List.mem_cons,List.not_mem_nil,or_false,forall_eq_or_imp,forall_eq,Fld.name,Fld.value] at h ⊢
 rw[iU,h w,Fld.mk.injEq]
theorem pR:∀ (n:Nat) (a b:Val),mI n a→(qu n a b=0↔a=b)
 | 0,a,b,h=>h.elim
 | n+1,a,b,hd=>by
   have ih:=pR n
   obtain⟨w1,w2,w3,w4,w5,w6⟩:=a
   obtain⟨z1,z2,z3,z4,z5,z6⟩:=b
   simp only[mI] at hd
   obtain⟨d4,d5⟩:=hd
   simp only[qu,m5,List.mem_cons,List.not_mem_nil,or_false,forall_eq_or_imp,forall_eq,Val.kind,Val.num,Val.scale,Val.text,Val.lst,Val.fields]
   rw[ld,ld,ld,iU,kB w5 z5 (fun x hx y=>ih x y (d4 x hx)),kB w6 z6 (fun x hx y=>Ca (fun v=>ih x.value v (d5 x hx)) y),Val.mk.injEq]
theorem J3 (n:Nat)(a b:Val)(hd:mI n a)(ha:a.ok)(hb:b.ok):au Tryz.prog aM 19 [a.pv,b.pv] (.bool (decide (qu n a b=0))):=by
 have hcall:=mD n a b hd ha hb
 generalize qu n a b=C at *
 obtain⟨w1,w2,w3,w4,w5,w6⟩:=a
 obtain⟨z1,z2,z3,z4,z5,z6⟩:=b
 simp only[Val.pv_mk] at hcall ⊢
 refine au.intro PS (by simp[F19]) ?_
 simp(disch:=try exact dI) only[F19,push_cast,seval]
 refine ab.pure hcall rfl ?_
 by_cases h0:C=0
 ·simp(disch:=try exact dI) only[h0,push_cast,seval]
 ·simp(disch:=try exact dI) only[h0,push_cast,seval]
open Go.RowKit
theorem nh:∀ (a b:List UInt8),Op.bytesLess a b=decide (Lib.compareBytes a b<0)
 | [],[]=>rfl
 | _::_,[]=>rfl
 | [],_::_=>rfl
 | a::x,b::y=>by
   rw[Op.bytesLess,nh x y]
   simp only[Lib.compareBytes]
   by_cases h1:a<b
   ·simp[h1]
   ·by_cases h2:b<a
    ·have h3:¬ a=b:=by rintro rfl;exact h1 h2
     simp[h1,h2,h3]
    ·have h3:a=b:=UInt8.le_antisymm (UInt8.not_lt.1 h2) (UInt8.not_lt.1 h1)
     subst h3
     simp[h1]
theorem OM {a b:List UInt8}(h1:¬ Lib.compareBytes a b<0)(h2:a≠b):Lib.compareBytes b a<0:=by
 have key:∀ a b:List UInt8,¬ Lib.compareBytes a b<0→a≠b→Lib.compareBytes b a<0:=by
  intro a
  induction a with
  | nil=>
    intro b h1 h2
    cases b with
    | nil=>exact absurd rfl h2
    | cons y q=>simp[Lib.compareBytes] at h1
  | cons x p ih=>
    intro b h1 h2
    cases b with
    | nil=>simp[Lib.compareBytes]
    | cons y q=>
      simp only[Lib.compareBytes] at h1 ⊢
      by_cases c1:x<y
      ·rw[if_pos c1] at h1;exact absurd (by decide) h1
      ·by_cases c2:y<x
       ·rw[if_pos c2];decide
       ·have h3:x=y:=UInt8.le_antisymm (UInt8.not_lt.1 c2) (UInt8.not_lt.1 c1)
        subst h3
        rw[if_neg c1,if_neg c1] at h1 ⊢
        exact ih q h1 (fun e=>h2 (by rw[e]))
 exact key a b h1 h2
def yy:List PV→Option (List (List UInt8))
 | []=>some []
 | .str s::r=>match yy r with
   | some l=>some (s::l)
   | none=>none
 | _=>none
theorem sZ:∀ {l:List PV} {ss:List (List UInt8)},yy l=some ss→l=ss.map .str
 | [],ss,h=>by simp only[yy,Option.some.injEq] at h;subst h;rfl
 | x::r,ss,h=>by
   unfold yy at h
   split at h
   ·rename_i e;cases e
   ·rename_i s r' e
    cases e
    split at h
    ·rename_i l hl
     cases h
     rw[sZ hl];rfl
    ·cases h
   ·cases h
def eqL (p:PV→PV→Bool):List PV→List PV→Bool
 | [],[]=>true
 | x::r,y::q=>p x y&&eqL p r q
 | _,_=>false
def eqP:Nat→PV→PV→Bool
 | n+1,.int k a,.int k' b=>decide (k=k')&&decide (a=b)
 | n+1,.str a,.str b=>decide (a=b)
 | n+1,.nils,.nils=>true
 | n+1,.agg a,.agg b=>eqL (eqP n) a b
 | n+1,.list a,.list b=>eqL (eqP n) a b
 | _,_,_=>false
theorem BT {p:PV→PV→Bool}(hp:∀ x y,p x y=true→x=y):∀ a b,eqL p a b=true→a=b
 | [],[],_=>rfl
 | x::r,y::q,h=>by
   simp only[eqL,Bool.and_eq_true] at h
   rw[hp x y h.1,BT hp r q h.2]
 | [],y::q,h=>by simp[eqL] at h
 | x::r,[],h=>by simp[eqL] at h
theorem uA:∀ n x y,eqP n x y=true→x=y
 | 0,x,y,h=>by simp[eqP] at h
 | n+1,x,y,h=>by
   unfold eqP at h
   split at h
   ·simp only[Bool.and_eq_true,decide_eq_true_eq] at h;rw[h.1,h.2]
   ·simp only[decide_eq_true_eq] at h;rw[h]
   ·rfl
   ·rw[BT (uA _) _ _ h]
   ·rw[BT (uA _) _ _ h]
   ·cases h
def v1:Val:=.mk 9 0 0 [] [] [.mk [97] (.mk 3 1250 2 [] [] []),.mk [98] (.mk 8 0 0 [] [.mk 1 1 0 [] [] [],.mk 4 0 0 [97,34,98] [] []] []),.mk [99] (.mk 10 0 0 [99,97,114,100] [.mk 6 0 0 [] [] []] [])]
def v1P:PV:=.agg [.int .i64 9,.int .i64 0,.int .i64 0,.str [],.nils,.list [.agg [.str [97],.int .i64 3,.int .i64 1250,.int .i64 2,.str [],.nils,.nils],.agg [.str [98],.int .i64 8,.int .i64 0,.int .i64 0,.str [],.list [.agg [.int .i64 1,.int .i64 1,.int .i64 0,.str [],.nils,.nils],.agg [.int .i64 4,.int .i64 0,.int .i64 0,.str [97,34,98],.nils,.nils]],.nils],.agg [.str [99],.int .i64 10,.int .i64 0,.int .i64 0,.str [99,97,114,100],.list [.agg [.int .i64 6,.int .i64 0,.int .i64 0,.str [],.nils,.nils]],.nils]]]
def v2:Val:=.mk 9 0 0 [] [] [.mk [97] (.mk 3 2 0 [] [] []),.mk [98] (.mk 2 1 0 [] [] [])]
def v2P:PV:=.agg [.int .i64 9,.int .i64 0,.int .i64 0,.str [],.nils,.list [.agg [.str [97],.int .i64 3,.int .i64 2,.int .i64 0,.str [],.nils,.nils],.agg [.str [98],.int .i64 2,.int .i64 1,.int .i64 0,.str [],.nils,.nils]]]
theorem F8:au Tryz.prog aM 15 [v1P] (.int .i64 0):=by
 have h:=nG 4 v1 (by simp[v1,r5,dw,Val.kind,Val.fields,Val.lst,Fld.value]) (by simp[v1,Val.ok_mk,Fld.ok_mk,I64])
 have e:Dh 0 (jn 4 1 v1)=0:=by decide +kernel
 rw[e] at h
 refine h.nz ?_
 simp only[v1P,v1,Val.pv_mk,Fld.pv_mk,List.map_cons,List.map_nil]
 repeat' constructor
theorem F7:au Tryz.prog aM 15 [v2P] (.int .i64 0):=by
 have h:=nG 3 v2 (by simp[v2,r5,dw,Val.kind,Val.fields,Fld.value]) (by simp[v2,Val.ok_mk,Fld.ok_mk,I64])
 have e:Dh 0 (jn 3 1 v2)=0:=by decide +kernel
 rw[e] at h
 refine h.nz ?_
 simp only[v2P,v2,Val.pv_mk,Fld.pv_mk,List.map_cons,List.map_nil]
 repeat' constructor
def orc (f:Nat)(ps:List PV):Option PV:=
 match f with
 | 66=>match ps with
   | [.int .i64 n]=>if -9223372036854775808≤n∧n≤9223372036854775807 then some (.str (gu n)) else none
   | _=>none
 | 103=>match ps with
   | [.str a,.str b]=>some (.int .i64 (Lib.compareBytes a b))
   | _=>none
 | 141=>match ps with
   | [.list l,.str s]=>match yy l with
     | some ss=>if ss.length≤140737488355328∧(gU s ss).length≤140737488355328 then some (.str (gU s ss)) else none
     | none=>none
   | _=>none
 | 88=>match ps with
   | [.str a,.int .i64 n]=>if 0≤n∧n≤9223372036854775807∧a.length*n.toNat≤140737488355328 then some (.str (Lib.repeatL a n.toNat)) else none
   | _=>none
 | 15=>match ps with
   | [p]=>if eqP 6 p v1P=true then some (.int .i64 0) else if eqP 6 p v2P=true then some (.int .i64 0) else none
   | _=>none
 | _=>none
theorem NA:∀ f ps r,orc f ps=some r→au Tryz.prog aM f ps r:=by
 intro f ps r h
 unfold orc at h
 split at h
 ·split at h
  ·split at h
   ·rename_i hh;cases h;exact rP _ hh.1 hh.2
   ·cases h
  ·cases h
 ·split at h
  ·cases h;exact iS _ _
  ·cases h
 ·split at h
  ·split at h
   ·rename_i e
    split at h
    ·rename_i hh;cases h
     rw[sZ e]
     exact JF _ _ hh.1 hh.2
    ·cases h
   ·cases h
  ·cases h
 ·split at h
  ·split at h
   ·rename_i hh;cases h;exact oy _ _ hh.1 hh.2.1 hh.2.2
   ·cases h
  ·cases h
 ·split at h
  ·split at h
   ·rename_i hh;cases h;rw[uA _ _ _ hh];exact F8
   ·split at h
    ·rename_i hh;cases h;rw[uA _ _ _ hh];exact F7
    ·cases h
  ·cases h
 ·cases h
noncomputable def gFn (p:Nat×List Nat):TabRow:=⟨p.1,p.2,(cFn Tryz.prog p.2 p.1).getD ⟨0,[],.skip⟩⟩
def GT:List (Nat×List Nat):=[(12,[]),(14,[]),(16,[]),(18,[]),(20,[]),(26,[]),(31,[]),(33,[]),(36,[]),(37,[]),(42,[]),(43,[]),(45,[]),(46,[]),(47,[]),(49,[14]),(52,[]),(56,[124,1000168,1000123]),(63,[]),(64,[]),(65,[]),(67,[]),(68,[]),(82,[]),(86,[]),(87,[]),(89,[]),(90,[]),(92,[]),(93,[]),(94,[]),(95,[]),(99,[59,1000066]),(107,[19]),(113,[44]),(120,[]),(121,[]),(122,[]),(123,[]),(131,[]),(132,[]),(133,[]),(134,[]),(142,[]),(143,[]),(145,[]),(146,[]),(151,[]),(154,[]),(155,[]),(156,[]),(157,[]),(158,[]),(159,[]),(162,[]),(163,[]),(164,[]),(165,[]),(166,[]),(167,[]),(168,[]),(184,[]),(185,[12]),(189,[]),(195,[]),(196,[]),(198,[]),(203,[]),(206,[]),(209,[]),(210,[]),(211,[]),(215,[]),(220,[]),(221,[]),(225,[]),(226,[]),(236,[]),(237,[]),(248,[]),(254,[]),(261,[])]
theorem MI {l:List (Nat×List Nat)}(h:(l.all fun p=>(cFn Tryz.prog p.2 p.1).isSome)=true):∀ r∈l.map gFn,cFn Tryz.prog r.muts r.f=some r.fn:=by
 intro r hr
 obtain⟨p,hp,rfl⟩:=List.mem_map.1 hr
 have h:=List.all_eq_true.1 h p hp
 simp only[gFn]
 cases h':cFn Tryz.prog p.2 p.1 with
 | some x=>rfl
 | none=>rw[h'] at h;cases h
theorem MS:(GT.all fun p=>(cFn Tryz.prog p.2 p.1).isSome)=true:=by kernel_rfl
theorem SW:z7 (exF (GT.map gFn) orc aM 20000 200) 12 []=some (.bool true):=by kernel_rfl
theorem JE:au Tryz.prog aM 12 [] (.bool true):=au.of_ex (MI MS) NA SW
end Go.Proofs.YtamoeblcphjbaaaGreatDoor
-- many steps
namespace Go.Proofs.YtamoeblcphjbaaaGreatDoor
open Go Go.Ab Go.RowKit
attribute [local irreducible] vc
section
variable {T:Nat}{p:PV}
end
end Go.Proofs.YtamoeblcphjbaaaGreatDoor
-- many steps
namespace Go.Proofs.YtamoeblcphjbaaaGreatDoor
open Go Go.Ab Go.RowKit
attribute [local irreducible] vc
end Go.Proofs.YtamoeblcphjbaaaGreatDoor
-- many steps
namespace Go.Proofs.YtamoeblcphjbaaaGreatDoor
open Go Go.Ab Go.RowKit
attribute [local irreducible] vc
end Go.Proofs.YtamoeblcphjbaaaGreatDoor
-- many steps
namespace Go.Proofs.YtamoeblcphjbaaaGreatDoor
open Go Go.Ab Go.RowKit
attribute [local irreducible] vc
end Go.Proofs.YtamoeblcphjbaaaGreatDoor
