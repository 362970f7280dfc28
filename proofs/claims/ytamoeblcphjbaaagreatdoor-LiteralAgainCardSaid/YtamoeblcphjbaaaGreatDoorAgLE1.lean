/- A part of the proof for LiteralAgainCardSaid. -/
import Derived.Test.YtamoeblcphjbaaaGreatDoorAgL15
import Derived.Test.YtamoeblcphjbaaaGreatDoorAgF
set_option maxRecDepth 100000
set_option linter.unusedVariables false
set_option linter.unusedSimpArgs false
-- many steps
namespace Go.Proofs.YtamoeblcphjbaaaGreatDoor
open Go Go.Ab
attribute [local irreducible] vc
def xd (x y:Int):Int:=if x<y then -1 else if y<x then 1 else 0
def orI:List Int→Int
 | []=>0
 | x::r=>if x=0 then orI r else x
def eH {α:Type}(c:α→α→Int):List α→List α→Int
 | [],[]=>0
 | [],_::_=>-1
 | _::_,[]=>1
 | x::r,y::q=>if c x y=0 then eH c r q else c x y
def J8 (c:Val→Val→Int)(x y:Fld):Int:=orI [Lib.compareBytes x.name y.name,c x.value y.value]
def qj:Nat→Val→Val→Int
 | 0=>fun _ _=>0
 | n+1=>fun a b=>orI [xd a.kind b.kind,xd a.num b.num,xd a.scale b.scale,Lib.compareBytes a.text b.text,eH (qj n) a.lst b.lst,eH (J8 (qj n)) a.fields b.fields]
theorem lf {x y:Int}:xd x y=0↔x=y:=by
 unfold xd;constructor
 ·intro h;split at h;· omega
  split at h<;>omega
 ·rintro rfl;rw[if_neg (by omega),if_neg (by omega)]
theorem mR:∀ l:List Int,orI l=0↔∀ x∈l,x=0
 | []=>by simp[orI]
 | x::r=>by
   rw[orI]
   by_cases h:x=0
   ·rw[if_pos h,mR r];simp[h]
   ·rw[if_neg h];simp[h]
theorem iS:∀ a b:List UInt8,Lib.compareBytes a b=0↔a=b
 | [],[]=>by simp[Lib.compareBytes]
 | [],_::_=>by simp[Lib.compareBytes]
 | _::_,[]=>by simp[Lib.compareBytes]
 | a::r,b::q=>by
   have ih:=iS r q
   rw[Lib.compareBytes]
   by_cases h1:a<b
   ·have:¬ a=b:=by rintro rfl;exact (UInt8.lt_irrefl a) h1
    simp[h1,this]
   ·by_cases h2:b<a
    ·have:¬ a=b:=by rintro rfl;exact (UInt8.lt_irrefl a) h2
     simp[h1,h2,this]
    ·have h3:a=b:=UInt8.le_antisymm (UInt8.not_lt.1 h2) (UInt8.not_lt.1 h1)
     simp[h1,h2,h3,ih]
theorem kK {α:Type}{c:α→α→Int}:∀ (l k:List α),(∀ x∈l,∀ y,c x y=0↔x=y)→(eH c l k=0↔l=k)
 | [],[],_=>by simp[eH]
 | [],_::_,_=>by simp[eH]
 | _::_,[],_=>by simp[eH]
 | x::r,y::q,h=>by
   have ih:=kK r q (fun z hz=>h z (by simp[hz]))
   have h1:=h x (by simp) y
   rw[eH]
   by_cases h0:c x y=0
   ·rw[if_pos h0,ih];simp[h1.1 h0]
   ·rw[if_neg h0]
    constructor
    ·intro hh;exact absurd hh h0
    ·intro hh;cases hh;exact absurd (h1.2 rfl) h0
theorem G4 (x:Int):aq Tryz.prog aF 173 [.int .i64 x] (.bool false):=by
 refine aq.intro KP (by simp[Q7]) ?_
 simp(disch:=try exact dI) only[Q7,eq_self,push_cast,seval]
theorem BS (x y:Int):aq Tryz.prog aF 102 [.int .i64 x,.int .i64 y] (.int .i64 (xd x y)):=by
 refine aq.intro Lm (by simp[Rl]) ?_
 simp(disch:=try exact dI) only[Rl,push_cast,seval]
 refine ab.pure (G4 x) rfl ?_
 simp(disch:=try exact dI) only[push_cast,seval]
 refine ab.pure (G4 y) rfl ?_
 by_cases h1:x<y
 ·simp(disch:=try exact dI) only[xd,h1,push_cast,seval]
 ·by_cases h2:y<x
  ·simp(disch:=try exact dI) only[xd,h1,h2,push_cast,seval]
  ·simp(disch:=try exact dI) only[xd,h1,h2,push_cast,seval]
theorem MJ (l:List Int)(hl:l.length≤1000):aq Tryz.prog aF 101 [.list (l.map (PV.int .i64))] (.int .i64 (orI l)):=by
 refine aq.intro Ln (by simp[Rm]) ?_
 simp(disch:=try exact dI) only[Rm,push_cast,seval]
 refine be ([]) (fun i:Nat=>[(8,.pv (.int .i64 (i:Int)))]) (fun _=>[]) (fun i=>i≤l.length∧orI l=orI (l.drop i)) (fun i=>l.length - i) (0) ?_;intro e0 σ0 n0 h0;simp(disch:=try exact dI) only[push_cast,seval] at h0;obtain⟨rfl,rfl,rfl⟩:=h0;refine⟨?_,?_,?_⟩
 ·simp(disch:=try exact dI) only[push_cast,seval]
 ·exact⟨Nat.zero_le _,rfl⟩
 rintro i ⟨hi,hpre⟩
 by_cases hlt:i<l.length
 ·have hltI:(i:Int)<l.length:=by omega
  obtain⟨x,hx⟩:∃ x,l[i]? = some x:=⟨l[i],List.getElem?_eq_getElem hlt⟩
  have hd:=bV hx
  by_cases h0:x=0
  ·simp(disch:=try exact dI) only[hx,h0,eq_self,push_cast,seval]
   exact⟨i+1,bT qsZ,⟨by omega,by rw[hpre,hd,orI,if_pos h0]⟩,by omega⟩
  ·simp(disch:=try exact dI) only[hx,h0,push_cast,seval]
   rw[hpre,hd,orI,if_neg h0]
 ·have hltI:¬ (i:Int)<l.length:=by omega
  simp(disch:=try exact dI) only[push_cast,seval]
  rw[hpre,List.drop_eq_nil_of_le (by omega)];rfl
theorem AC {α:Type}{c:α→α→Int}{l k:List α}{i:Nat}{x y:α}(h:eH c l k=eH c (l.drop i) (k.drop i))(hx:l[i]? = some x)(hy:k[i]? = some y)(h0:c x y=0):eH c l k=eH c (l.drop (i+1)) (k.drop (i+1)):=by
 rw[h,bV hx,bV hy,eH,if_pos h0]
theorem tl {α:Type}{c:α→α→Int}{l k:List α}{i:Nat}{x y:α}(h:eH c l k=eH c (l.drop i) (k.drop i))(hx:l[i]? = some x)(hy:k[i]? = some y)(h0:¬ c x y=0):eH c l k=c x y:=by
 rw[h,bV hx,bV hy,eH,if_neg h0]
theorem pg {α:Type}{c:α→α→Int}{l k:List α}{i:Nat}{x:α}(h:eH c l k=eH c (l.drop i) (k.drop i))(hx:l[i]? = some x)(hy:¬ i<k.length):eH c l k=1:=by
 have e:k.drop i=[]:=List.drop_eq_nil_of_le (by omega)
 rw[h,bV hx,e,eH]
theorem ph {α:Type}{c:α→α→Int}{l k:List α}(h:eH c l k=eH c (l.drop l.length) (k.drop l.length))(hk:l.length<k.length):eH c l k = -1:=by
 obtain⟨y,hy⟩:∃ y,k[l.length]? = some y:=⟨_,List.getElem?_eq_getElem hk⟩
 rw[h,bV hy,List.drop_length,eH]
theorem tm {α:Type}{c:α→α→Int}{l k:List α}(h:eH c l k=eH c (l.drop l.length) (k.drop l.length))(hk:¬ l.length<k.length):eH c l k=0:=by
 rw[h,List.drop_length,List.drop_eq_nil_of_le (by omega),eH]
set_option maxHeartbeats 4000000 in
theorem wy (l k:List Val)(g:Nat)(c:Val→Val→Int)(hg:∀ x∈l,∀ y∈k,aq Tryz.prog aF g [x.pv,y.pv] (.int .i64 (c x y)))(hl:l.length≤9000000000000)(hk:k.length≤9000000000000):aq Tryz.prog aF 104 [.list (l.map Val.pv),.list (k.map Val.pv),.clo g [] []] (.int .i64 (eH c l k)):=by
 refine aq.intro Ll (by simp[Rk]) ?_
 generalize hR:eH c l k=R
 simp(disch:=try exact dI) only[Rk,push_cast,seval]
 refine be ([]) (fun m:Nat=>[(13,.pv (.int .i64 (m:Int)))]) (fun m=>[]) (fun m=>m≤l.length∧m≤k.length∧eH c l k=eH c (l.drop m) (k.drop m)) (fun m=>l.length - m) (0) ?_;intro e0 σ0 n0 h0;simp(disch:=try exact dI) only[push_cast,seval] at h0;obtain⟨rfl,rfl,rfl⟩:=h0;refine⟨?_,?_,?_⟩
 ·simp(disch:=try exact dI) only[push_cast,seval]
 ·exact⟨Nat.zero_le _,Nat.zero_le _,rfl⟩
 ·rintro m ⟨hm,hm2,he⟩
  by_cases hlt:m<l.length
  ·have hltI:(m:Int)<l.length:=by omega
   obtain⟨x,hx⟩:∃ x,l[m]? = some x:=⟨_,List.getElem?_eq_getElem hlt⟩
   by_cases hlt2:m<k.length
   ·have hlt2I:(m:Int)<k.length:=by omega
    obtain⟨y,hy⟩:∃ y,k[m]? = some y:=⟨_,List.getElem?_eq_getElem hlt2⟩
    have hcall:=hg x (List.mem_of_getElem? hx) y (List.mem_of_getElem? hy)
    have hgo:=AC he hx hy
    have hhit:=tl he hx hy
    generalize c x y=C at *
    obtain⟨w1,w2,w3,w4,w5,w6⟩:=x
    obtain⟨z1,z2,z3,z4,z5,z6⟩:=y
    rw[Val.pv_mk,Val.pv_mk] at hcall
    simp(disch:=try exact dI) only[hx,hy,Val.pv_mk,push_cast,seval]
    refine ab.pure hcall rfl ?_
    by_cases h0:C=0
    ·subst h0
     simp(disch:=try exact dI) only[push_cast,seval]
     exact⟨m+1,bT qsZ,⟨by omega,by omega,hgo rfl⟩,by omega⟩
    ·simp(disch:=try exact dI) only[h0,push_cast,seval]
     rw[← hR,hhit h0]
   ·have hlt2I:¬ (m:Int)<k.length:=by omega
    rw[pg he hx hlt2] at hR
    subst hR
    obtain⟨w1,w2,w3,w4,w5,w6⟩:=x
    simp(disch:=try exact dI) only[hx,Val.pv_mk,push_cast,seval]
  ·have hltI:¬ (m:Int)<l.length:=by omega
   obtain rfl:m=l.length:=by omega
   by_cases hk2:l.length<k.length
   ·have hk2I:(l.length:Int)<k.length:=by omega
    rw[ph he hk2] at hR
    subst hR
    simp(disch:=try exact dI) only[push_cast,seval]
   ·have hk2I:¬ (l.length:Int)<k.length:=by omega
    rw[tm he hk2] at hR
    subst hR
    simp(disch:=try exact dI) only[push_cast,seval]
set_option maxHeartbeats 4000000 in
theorem ww (l k:List Fld)(g:Nat)(c:Fld→Fld→Int)(hg:∀ x∈l,∀ y∈k,aq Tryz.prog aF g [x.pv,y.pv] (.int .i64 (c x y)))(hl:l.length≤9000000000000)(hk:k.length≤9000000000000):aq Tryz.prog aF 105 [.list (l.map Fld.pv),.list (k.map Fld.pv),.clo g [] []] (.int .i64 (eH c l k)):=by
 refine aq.intro Lk (by simp[Rj]) ?_
 generalize hR:eH c l k=R
 simp(disch:=try exact dI) only[Rj,push_cast,seval]
 refine be ([]) (fun m:Nat=>[(13,.pv (.int .i64 (m:Int)))]) (fun m=>[]) (fun m=>m≤l.length∧m≤k.length∧eH c l k=eH c (l.drop m) (k.drop m)) (fun m=>l.length - m) (0) ?_;intro e0 σ0 n0 h0;simp(disch:=try exact dI) only[push_cast,seval] at h0;obtain⟨rfl,rfl,rfl⟩:=h0;refine⟨?_,?_,?_⟩
 ·simp(disch:=try exact dI) only[push_cast,seval]
 ·exact⟨Nat.zero_le _,Nat.zero_le _,rfl⟩
 ·rintro m ⟨hm,hm2,he⟩
  by_cases hlt:m<l.length
  ·have hltI:(m:Int)<l.length:=by omega
   obtain⟨x,hx⟩:∃ x,l[m]? = some x:=⟨_,List.getElem?_eq_getElem hlt⟩
   by_cases hlt2:m<k.length
   ·have hlt2I:(m:Int)<k.length:=by omega
    obtain⟨y,hy⟩:∃ y,k[m]? = some y:=⟨_,List.getElem?_eq_getElem hlt2⟩
    have hcall:=hg x (List.mem_of_getElem? hx) y (List.mem_of_getElem? hy)
    have hgo:=AC he hx hy
    have hhit:=tl he hx hy
    generalize c x y=C at *
    obtain⟨w0,⟨w1,w2,w3,w4,w5,w6⟩⟩:=x
    obtain⟨z0,⟨z1,z2,z3,z4,z5,z6⟩⟩:=y
    simp only[Fld.pv_mk,Val.pv_mk] at hcall
    simp(disch:=try exact dI) only[hx,hy,Fld.pv_mk,Val.pv_mk,push_cast,seval]
    refine ab.pure hcall rfl ?_
    by_cases h0:C=0
    ·subst h0
     simp(disch:=try exact dI) only[push_cast,seval]
     exact⟨m+1,bT qsZ,⟨by omega,by omega,hgo rfl⟩,by omega⟩
    ·simp(disch:=try exact dI) only[h0,push_cast,seval]
     rw[← hR,hhit h0]
   ·have hlt2I:¬ (m:Int)<k.length:=by omega
    rw[pg he hx hlt2] at hR
    subst hR
    obtain⟨w0,⟨w1,w2,w3,w4,w5,w6⟩⟩:=x
    simp(disch:=try exact dI) only[hx,Fld.pv_mk,Val.pv_mk,push_cast,seval]
  ·have hltI:¬ (m:Int)<l.length:=by omega
   obtain rfl:m=l.length:=by omega
   by_cases hk2:l.length<k.length
   ·have hk2I:(l.length:Int)<k.length:=by omega
    rw[ph he hk2] at hR
    subst hR
    simp(disch:=try exact dI) only[push_cast,seval]
   ·have hk2I:¬ (l.length:Int)<k.length:=by omega
    rw[tm he hk2] at hR
    subst hR
    simp(disch:=try exact dI) only[push_cast,seval]
set_option maxHeartbeats 4000000 in
theorem Ny (n:Nat)(ih:∀ a b,mz n a→a.ok→b.ok→aq Tryz.prog aF 48 [a.pv,b.pv] (.int .i64 (qj n a b)))(x y:Fld)(hx:mz n x.value)(hxo:x.ok)(hyo:y.ok):aq Tryz.prog aF 106 [x.pv,y.pv] (.int .i64 (J8 (qj n) x y)):=by
 obtain⟨xn,xv⟩:=x
 obtain⟨yn,yv⟩:=y
 rw[Fld.ok_mk] at hxo hyo
 simp only[Fld.value] at hx
 have hcall:=ih xv yv hx hxo.2 hyo.2
 have h102:=iQ xn yn
 simp only[J8,Fld.name,Fld.value]
 have h130:=MJ [Lib.compareBytes xn yn,qj n xv yv] (by simp)
 generalize qj n xv yv=C at *
 generalize Lib.compareBytes xn yn=D at *
 obtain⟨w1,w2,w3,w4,w5,w6⟩:=xv
 obtain⟨z1,z2,z3,z4,z5,z6⟩:=yv
 simp only[Val.pv_mk] at hcall
 refine aq.intro Lj (by simp[Ri]) ?_
 simp(disch:=try exact dI) only[Ri,Fld.pv_mk,Val.pv_mk,push_cast,seval]
 refine ae h102 rfl ?_
 simp(disch:=try exact dI) only[push_cast,seval]
 refine ab.pure hcall rfl ?_
 simp(disch:=try exact dI) only[push_cast,seval]
 refine ab.pure h130 rfl ?_
 simp(disch:=try exact dI) only[push_cast,seval]
set_option maxHeartbeats 4000000 in
theorem mo:∀ (n:Nat) (a b:Val),mz n a→a.ok→b.ok→aq Tryz.prog aF 48 [a.pv,b.pv] (.int .i64 (qj n a b))
 | 0,a,b,h,_,_=>h.elim
 | n+1,a,b,hd,ha,hb=>by
   have ih:=mo n
   obtain⟨w1,w2,w3,w4,w5,w6⟩:=a
   obtain⟨z1,z2,z3,z4,z5,z6⟩:=b
   simp only[mz] at hd
   obtain⟨d4,d5⟩:=hd
   rw[Val.ok_mk] at ha hb
   obtain⟨a1,a2,a3,a4,a5,a7,a6,a8⟩:=ha
   obtain⟨b1,b2,b3,b4,b5,b7,b6,b8⟩:=hb
   have h132:=wy w5 z5 48 (qj n) (fun x hx y hy=>ih x y (d4 x hx) (a7 x hx) (b7 y hy)) (by omega) (by omega)
   have h133:=ww w6 z6 106 (J8 (qj n)) (fun x hx y hy=>Ny n ih x y (d5 x hx) (a8 x hx) (b8 y hy)) (by omega) (by omega)
   have h1:=BS w1 z1
   have h2:=BS w2 z2
   have h3:=BS w3 z3
   have h4:=iQ w4 z4
   simp only[qj,Val.kind,Val.num,Val.scale,Val.text,Val.lst,Val.fields]
   generalize eH (qj n) w5 z5=C5 at *
   generalize eH (J8 (qj n)) w6 z6=C6 at *
   generalize xd w1 z1=C1 at *
   generalize xd w2 z2=C2 at *
   generalize xd w3 z3=C3 at *
   generalize Lib.compareBytes w4 z4=C4 at *
   have h130:=MJ [C1,C2,C3,C4,C5,C6] (by simp)
   refine aq.intro Ou (by simp[F48]) ?_
   simp(disch:=try exact dI) only[F48,Val.pv_mk,push_cast,seval]
   refine ae h1 rfl ?_
   simp(disch:=try exact dI) only[push_cast,seval]
   refine ae h2 rfl ?_
   simp(disch:=try exact dI) only[push_cast,seval]
   refine ae h3 rfl ?_
   simp(disch:=try exact dI) only[push_cast,seval]
   refine ae h4 rfl ?_
   simp(disch:=try exact dI) only[push_cast,seval]
   refine ae h132 rfl ?_
   simp(disch:=try exact dI) only[push_cast,seval]
   refine ab.pure h133 rfl ?_
   simp(disch:=try exact dI) only[push_cast,seval]
   refine ab.pure h130 rfl ?_
   simp(disch:=try exact dI) only[push_cast,seval]
theorem BR {c:Val→Val→Int}{x:Fld}(h:∀ y,c x.value y=0↔x.value=y)(y:Fld):J8 c x y=0↔x=y:=by
 obtain⟨a,v⟩:=x
 obtain⟨b,w⟩:=y
 unfold J8
 rw[mR]
 simp only[List.mem_cons,List.not_mem_nil,or_false,forall_eq_or_imp,forall_eq,Fld.name,Fld.value] at h ⊢
 rw[iS,h w,Fld.mk.injEq]
theorem pI:∀ (n:Nat) (a b:Val),mz n a→(qj n a b=0↔a=b)
 | 0,a,b,h=>h.elim
 | n+1,a,b,hd=>by
   have ih:=pI n
   obtain⟨w1,w2,w3,w4,w5,w6⟩:=a
   obtain⟨z1,z2,z3,z4,z5,z6⟩:=b
   simp only[mz] at hd
   obtain⟨d4,d5⟩:=hd
   simp only[qj,mR,List.mem_cons,List.not_mem_nil,or_false,forall_eq_or_imp,forall_eq,Val.kind,Val.num,Val.scale,Val.text,Val.lst,Val.fields]
   rw[lf,lf,lf,iS,kK w5 z5 (fun x hx y=>ih x y (d4 x hx)),kK w6 z6 (fun x hx y=>BR (fun v=>ih x.value v (d5 x hx)) y),Val.mk.injEq]
theorem JW (n:Nat)(a b:Val)(hd:mz n a)(ha:a.ok)(hb:b.ok):aq Tryz.prog aF 19 [a.pv,b.pv] (.bool (decide (qj n a b=0))):=by
 have hcall:=mo n a b hd ha hb
 generalize qj n a b=C at *
 obtain⟨w1,w2,w3,w4,w5,w6⟩:=a
 obtain⟨z1,z2,z3,z4,z5,z6⟩:=b
 simp only[Val.pv_mk] at hcall ⊢
 refine aq.intro OM (by simp[F19]) ?_
 simp(disch:=try exact dI) only[F19,push_cast,seval]
 refine ab.pure hcall rfl ?_
 by_cases h0:C=0
 ·simp(disch:=try exact dI) only[h0,push_cast,seval]
 ·simp(disch:=try exact dI) only[h0,push_cast,seval]
end Go.Proofs.YtamoeblcphjbaaaGreatDoor
