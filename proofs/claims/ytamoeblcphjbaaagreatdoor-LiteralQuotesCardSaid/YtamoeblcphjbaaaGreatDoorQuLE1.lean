/- A part of the proof for LiteralQuotesCardSaid. -/
import Derived.Test.YtamoeblcphjbaaaGreatDoorQuL5
import Derived.Test.YtamoeblcphjbaaaGreatDoorQuF
set_option maxRecDepth 100000
set_option linter.unusedVariables false
set_option linter.unusedSimpArgs false
-- many steps
namespace Go.Proofs.YtamoeblcphjbaaaGreatDoor
open Go Go.Ab
attribute [local irreducible] vc
def wh (x y:Int):Int:=if x<y then -1 else if y<x then 1 else 0
def orI:List Int→Int
 | []=>0
 | x::r=>if x=0 then orI r else x
def dN {α:Type}(c:α→α→Int):List α→List α→Int
 | [],[]=>0
 | [],_::_=>-1
 | _::_,[]=>1
 | x::r,y::q=>if c x y=0 then dN c r q else c x y
def JG (c:Val→Val→Int)(x y:Fld):Int:=orI [Lib.compareBytes x.name y.name,c x.value y.value]
def oz:Nat→Val→Val→Int
 | 0=>fun _ _=>0
 | n+1=>fun a b=>orI [wh a.kind b.kind,wh a.num b.num,wh a.scale b.scale,Lib.compareBytes a.text b.text,dN (oz n) a.lst b.lst,dN (JG (oz n)) a.fields b.fields]
theorem jA {x y:Int}:wh x y=0↔x=y:=by
 unfold wh;constructor
 ·intro h;split at h;· omega
  split at h<;>omega
 ·rintro rfl;rw[if_neg (by omega),if_neg (by omega)]
theorem kY:∀ l:List Int,orI l=0↔∀ x∈l,x=0
 | []=>by simp[orI]
 | x::r=>by
   rw[orI]
   by_cases h:x=0
   ·rw[if_pos h,kY r];simp[h]
   ·rw[if_neg h];simp[h]
theorem gz:∀ a b:List UInt8,Lib.compareBytes a b=0↔a=b
 | [],[]=>by simp[Lib.compareBytes]
 | [],_::_=>by simp[Lib.compareBytes]
 | _::_,[]=>by simp[Lib.compareBytes]
 | a::r,b::q=>by
   have ih:=gz r q
   rw[Lib.compareBytes]
   by_cases h1:a<b
   ·have:¬ a=b:=by rintro rfl;exact (UInt8.lt_irrefl a) h1
    simp[h1,this]
   ·by_cases h2:b<a
    ·have:¬ a=b:=by rintro rfl;exact (UInt8.lt_irrefl a) h2
     simp[h1,h2,this]
    ·have h3:a=b:=UInt8.le_antisymm (UInt8.not_lt.1 h2) (UInt8.not_lt.1 h1)
     simp[h1,h2,h3,ih]
theorem jg {α:Type}{c:α→α→Int}:∀ (l k:List α),(∀ x∈l,∀ y,c x y=0↔x=y)→(dN c l k=0↔l=k)
 | [],[],_=>by simp[dN]
 | [],_::_,_=>by simp[dN]
 | _::_,[],_=>by simp[dN]
 | x::r,y::q,h=>by
   have ih:=jg r q (fun z hz=>h z (by simp[hz]))
   have h1:=h x (by simp) y
   rw[dN]
   by_cases h0:c x y=0
   ·rw[if_pos h0,ih];simp[h1.1 h0]
   ·rw[if_neg h0]
    constructor
    ·intro hh;exact absurd hh h0
    ·intro hh;cases hh;exact absurd (h1.2 rfl) h0
theorem Gw (x:Int):aw Tryz.prog aF 173 [.int .i64 x] (.bool false):=by
 refine aw.intro Km (by simp[Qe]) ?_
 simp(maxSteps:=9^7) (disch:=first|exact dI|fail) only[Qe,eq_self,push_cast,seval]
theorem Bf (x y:Int):aw Tryz.prog aF 102 [.int .i64 x,.int .i64 y] (.int .i64 (wh x y)):=by
 refine aw.intro KS (by simp[Qr]) ?_
 simp(maxSteps:=9^7) (disch:=first|exact dI|fail) only[Qr,push_cast,seval]
 refine ab.pure (Gw x) rfl ?_
 simp(maxSteps:=9^7) (disch:=first|exact dI|fail) only[push_cast,seval]
 refine ab.pure (Gw y) rfl ?_
 by_cases h1:x<y
 ·simp(maxSteps:=9^7) (disch:=first|exact dI|fail) only[wh,h1,push_cast,seval]
 ·by_cases h2:y<x
  ·simp(maxSteps:=9^7) (disch:=first|exact dI|fail) only[wh,h1,h2,push_cast,seval]
  ·simp(maxSteps:=9^7) (disch:=first|exact dI|fail) only[wh,h1,h2,push_cast,seval]
theorem Mc (l:List Int)(hl:l.length≤1000):aw Tryz.prog aF 101 [.list (l.map (PV.int .i64))] (.int .i64 (orI l)):=by
 refine aw.intro KT (by simp[Qs]) ?_
 simp(maxSteps:=9^7) (disch:=first|exact dI|fail) only[Qs,push_cast,seval]
 refine bg ([]) (fun i:Nat=>[(8,.pv (.int .i64 (i:Int)))]) (fun _=>[]) (fun i=>i≤l.length∧orI l=orI (l.drop i)) (fun i=>l.length - i) (0) ?_;intro e0 σ0 n0 h0;simp(maxSteps:=9^7) (disch:=first|exact dI|fail) only[push_cast,seval] at h0;obtain⟨rfl,rfl,rfl⟩:=h0;refine⟨?_,?_,?_⟩
 ·simp(maxSteps:=9^7) (disch:=first|exact dI|fail) only[push_cast,seval]
 ·exact⟨Nat.zero_le _,rfl⟩
 rintro i ⟨hi,hpre⟩
 by_cases hlt:i<l.length
 ·have hltI:(i:Int)<l.length:=by omega
  obtain⟨x,hx⟩:∃ x,l[i]? = some x:=⟨l[i],List.getElem?_eq_getElem hlt⟩
  have hd:=bx hx
  by_cases h0:x=0
  ·simp(maxSteps:=9^7) (disch:=first|exact dI|fail) only[hx,h0,eq_self,push_cast,seval]
   exact⟨i+1,bM (by simp(maxSteps:=9^7) (disch:=first|exact dI|fail) only[push_cast,seval]),⟨by omega,by rw[hpre,hd,orI,if_pos h0]⟩,by omega⟩
  ·simp(maxSteps:=9^7) (disch:=first|exact dI|fail) only[hx,h0,push_cast,seval]
   rw[hpre,hd,orI,if_neg h0]
 ·have hltI:¬ (i:Int)<l.length:=by omega
  simp(maxSteps:=9^7) (disch:=first|exact dI|fail) only[push_cast,seval]
  rw[hpre,List.drop_eq_nil_of_le (by omega)];rfl
theorem zF {α:Type}{c:α→α→Int}{l k:List α}{i:Nat}{x y:α}(h:dN c l k=dN c (l.drop i) (k.drop i))(hx:l[i]? = some x)(hy:k[i]? = some y)(h0:c x y=0):dN c l k=dN c (l.drop (i+1)) (k.drop (i+1)):=by
 rw[h,bx hx,bx hy,dN,if_pos h0]
theorem rK {α:Type}{c:α→α→Int}{l k:List α}{i:Nat}{x y:α}(h:dN c l k=dN c (l.drop i) (k.drop i))(hx:l[i]? = some x)(hy:k[i]? = some y)(h0:¬ c x y=0):dN c l k=c x y:=by
 rw[h,bx hx,bx hy,dN,if_neg h0]
theorem nD {α:Type}{c:α→α→Int}{l k:List α}{i:Nat}{x:α}(h:dN c l k=dN c (l.drop i) (k.drop i))(hx:l[i]? = some x)(hy:¬ i<k.length):dN c l k=1:=by
 have e:k.drop i=[]:=List.drop_eq_nil_of_le (by omega)
 rw[h,bx hx,e,dN]
theorem nE {α:Type}{c:α→α→Int}{l k:List α}(h:dN c l k=dN c (l.drop l.length) (k.drop l.length))(hk:l.length<k.length):dN c l k = -1:=by
 obtain⟨y,hy⟩:∃ y,k[l.length]? = some y:=⟨_,List.getElem?_eq_getElem hk⟩
 rw[h,bx hy,List.drop_length,dN]
theorem rL {α:Type}{c:α→α→Int}{l k:List α}(h:dN c l k=dN c (l.drop l.length) (k.drop l.length))(hk:¬ l.length<k.length):dN c l k=0:=by
 rw[h,List.drop_length,List.drop_eq_nil_of_le (by omega),dN]
set_option maxHeartbeats 4000000 in
theorem vq (l k:List Val)(g:Nat)(c:Val→Val→Int)(hg:∀ x∈l,∀ y∈k,aw Tryz.prog aF g [x.pv,y.pv] (.int .i64 (c x y)))(hl:l.length≤9000000000000)(hk:k.length≤9000000000000):aw Tryz.prog aF 104 [.list (l.map Val.pv),.list (k.map Val.pv),.clo g [] []] (.int .i64 (dN c l k)):=by
 refine aw.intro KR (by simp[Qq]) ?_
 generalize hR:dN c l k=R
 simp(maxSteps:=9^7) (disch:=first|exact dI|fail) only[Qq,push_cast,seval]
 refine bg ([]) (fun m:Nat=>[(13,.pv (.int .i64 (m:Int)))]) (fun m=>[]) (fun m=>m≤l.length∧m≤k.length∧dN c l k=dN c (l.drop m) (k.drop m)) (fun m=>l.length - m) (0) ?_;intro e0 σ0 n0 h0;simp(maxSteps:=9^7) (disch:=first|exact dI|fail) only[push_cast,seval] at h0;obtain⟨rfl,rfl,rfl⟩:=h0;refine⟨?_,?_,?_⟩
 ·simp(maxSteps:=9^7) (disch:=first|exact dI|fail) only[push_cast,seval]
 ·exact⟨Nat.zero_le _,Nat.zero_le _,rfl⟩
 ·rintro m ⟨hm,hm2,he⟩
  by_cases hlt:m<l.length
  ·have hltI:(m:Int)<l.length:=by omega
   obtain⟨x,hx⟩:∃ x,l[m]? = some x:=⟨_,List.getElem?_eq_getElem hlt⟩
   by_cases hlt2:m<k.length
   ·have hlt2I:(m:Int)<k.length:=by omega
    obtain⟨y,hy⟩:∃ y,k[m]? = some y:=⟨_,List.getElem?_eq_getElem hlt2⟩
    have hcall:=hg x (List.mem_of_getElem? hx) y (List.mem_of_getElem? hy)
    have hgo:=zF he hx hy
    have hhit:=rK he hx hy
    generalize c x y=C at *
    obtain⟨w1,w2,w3,w4,w5,w6⟩:=x
    obtain⟨z1,z2,z3,z4,z5,z6⟩:=y
    rw[Val.pv_mk,Val.pv_mk] at hcall
    simp(maxSteps:=9^7) (disch:=first|exact dI|fail) only[hx,hy,Val.pv_mk,push_cast,seval]
    refine ab.pure hcall rfl ?_
    by_cases h0:C=0
    ·subst h0
     simp(maxSteps:=9^7) (disch:=first|exact dI|fail) only[push_cast,seval]
     exact⟨m+1,bM (by simp(maxSteps:=9^7) (disch:=first|exact dI|fail) only[push_cast,seval]),⟨by omega,by omega,hgo rfl⟩,by omega⟩
    ·simp(maxSteps:=9^7) (disch:=first|exact dI|fail) only[h0,push_cast,seval]
     rw[← hR,hhit h0]
   ·have hlt2I:¬ (m:Int)<k.length:=by omega
    rw[nD he hx hlt2] at hR
    subst hR
    obtain⟨w1,w2,w3,w4,w5,w6⟩:=x
    simp(maxSteps:=9^7) (disch:=first|exact dI|fail) only[hx,Val.pv_mk,push_cast,seval]
  ·have hltI:¬ (m:Int)<l.length:=by omega
   obtain rfl:m=l.length:=by omega
   by_cases hk2:l.length<k.length
   ·have hk2I:(l.length:Int)<k.length:=by omega
    rw[nE he hk2] at hR
    subst hR
    simp(maxSteps:=9^7) (disch:=first|exact dI|fail) only[push_cast,seval]
   ·have hk2I:¬ (l.length:Int)<k.length:=by omega
    rw[rL he hk2] at hR
    subst hR
    simp(maxSteps:=9^7) (disch:=first|exact dI|fail) only[push_cast,seval]
set_option maxHeartbeats 4000000 in
theorem vp (l k:List Fld)(g:Nat)(c:Fld→Fld→Int)(hg:∀ x∈l,∀ y∈k,aw Tryz.prog aF g [x.pv,y.pv] (.int .i64 (c x y)))(hl:l.length≤9000000000000)(hk:k.length≤9000000000000):aw Tryz.prog aF 105 [.list (l.map Fld.pv),.list (k.map Fld.pv),.clo g [] []] (.int .i64 (dN c l k)):=by
 refine aw.intro KQ (by simp[Qp]) ?_
 generalize hR:dN c l k=R
 simp(maxSteps:=9^7) (disch:=first|exact dI|fail) only[Qp,push_cast,seval]
 refine bg ([]) (fun m:Nat=>[(13,.pv (.int .i64 (m:Int)))]) (fun m=>[]) (fun m=>m≤l.length∧m≤k.length∧dN c l k=dN c (l.drop m) (k.drop m)) (fun m=>l.length - m) (0) ?_;intro e0 σ0 n0 h0;simp(maxSteps:=9^7) (disch:=first|exact dI|fail) only[push_cast,seval] at h0;obtain⟨rfl,rfl,rfl⟩:=h0;refine⟨?_,?_,?_⟩
 ·simp(maxSteps:=9^7) (disch:=first|exact dI|fail) only[push_cast,seval]
 ·exact⟨Nat.zero_le _,Nat.zero_le _,rfl⟩
 ·rintro m ⟨hm,hm2,he⟩
  by_cases hlt:m<l.length
  ·have hltI:(m:Int)<l.length:=by omega
   obtain⟨x,hx⟩:∃ x,l[m]? = some x:=⟨_,List.getElem?_eq_getElem hlt⟩
   by_cases hlt2:m<k.length
   ·have hlt2I:(m:Int)<k.length:=by omega
    obtain⟨y,hy⟩:∃ y,k[m]? = some y:=⟨_,List.getElem?_eq_getElem hlt2⟩
    have hcall:=hg x (List.mem_of_getElem? hx) y (List.mem_of_getElem? hy)
    have hgo:=zF he hx hy
    have hhit:=rK he hx hy
    generalize c x y=C at *
    obtain⟨w0,⟨w1,w2,w3,w4,w5,w6⟩⟩:=x
    obtain⟨z0,⟨z1,z2,z3,z4,z5,z6⟩⟩:=y
    simp only[Fld.pv_mk,Val.pv_mk] at hcall
    simp(maxSteps:=9^7) (disch:=first|exact dI|fail) only[hx,hy,Fld.pv_mk,Val.pv_mk,push_cast,seval]
    refine ab.pure hcall rfl ?_
    by_cases h0:C=0
    ·subst h0
     simp(maxSteps:=9^7) (disch:=first|exact dI|fail) only[push_cast,seval]
     exact⟨m+1,bM (by simp(maxSteps:=9^7) (disch:=first|exact dI|fail) only[push_cast,seval]),⟨by omega,by omega,hgo rfl⟩,by omega⟩
    ·simp(maxSteps:=9^7) (disch:=first|exact dI|fail) only[h0,push_cast,seval]
     rw[← hR,hhit h0]
   ·have hlt2I:¬ (m:Int)<k.length:=by omega
    rw[nD he hx hlt2] at hR
    subst hR
    obtain⟨w0,⟨w1,w2,w3,w4,w5,w6⟩⟩:=x
    simp(maxSteps:=9^7) (disch:=first|exact dI|fail) only[hx,Fld.pv_mk,Val.pv_mk,push_cast,seval]
  ·have hltI:¬ (m:Int)<l.length:=by omega
   obtain rfl:m=l.length:=by omega
   by_cases hk2:l.length<k.length
   ·have hk2I:(l.length:Int)<k.length:=by omega
    rw[nE he hk2] at hR
    subst hR
    simp(maxSteps:=9^7) (disch:=first|exact dI|fail) only[push_cast,seval]
   ·have hk2I:¬ (l.length:Int)<k.length:=by omega
    rw[rL he hk2] at hR
    subst hR
    simp(maxSteps:=9^7) (disch:=first|exact dI|fail) only[push_cast,seval]
set_option maxHeartbeats 4000000 in
theorem M5 (n:Nat)(ih:∀ a b,jT n a→a.ok→b.ok→aw Tryz.prog aF 48 [a.pv,b.pv] (.int .i64 (oz n a b)))(x y:Fld)(hx:jT n x.value)(hxo:x.ok)(hyo:y.ok):aw Tryz.prog aF 106 [x.pv,y.pv] (.int .i64 (JG (oz n) x y)):=by
 obtain⟨xn,xv⟩:=x
 obtain⟨yn,yv⟩:=y
 rw[Fld.ok_mk] at hxo hyo
 simp only[Fld.value] at hx
 have hcall:=ih xv yv hx hxo.2 hyo.2
 have h102:=gx xn yn
 simp only[JG,Fld.name,Fld.value]
 have h130:=Mc [Lib.compareBytes xn yn,oz n xv yv] (by simp)
 generalize oz n xv yv=C at *
 generalize Lib.compareBytes xn yn=D at *
 obtain⟨w1,w2,w3,w4,w5,w6⟩:=xv
 obtain⟨z1,z2,z3,z4,z5,z6⟩:=yv
 simp only[Val.pv_mk] at hcall
 refine aw.intro KP (by simp[Qo]) ?_
 simp(maxSteps:=9^7) (disch:=first|exact dI|fail) only[Qo,Fld.pv_mk,Val.pv_mk,push_cast,seval]
 refine ae h102 rfl ?_
 simp(maxSteps:=9^7) (disch:=first|exact dI|fail) only[push_cast,seval]
 refine ab.pure hcall rfl ?_
 simp(maxSteps:=9^7) (disch:=first|exact dI|fail) only[push_cast,seval]
 refine ab.pure h130 rfl ?_
 simp(maxSteps:=9^7) (disch:=first|exact dI|fail) only[push_cast,seval]
set_option maxHeartbeats 4000000 in
theorem ky:∀ (n:Nat) (a b:Val),jT n a→a.ok→b.ok→aw Tryz.prog aF 48 [a.pv,b.pv] (.int .i64 (oz n a b))
 | 0,a,b,h,_,_=>h.elim
 | n+1,a,b,hd,ha,hb=>by
   have ih:=ky n
   obtain⟨w1,w2,w3,w4,w5,w6⟩:=a
   obtain⟨z1,z2,z3,z4,z5,z6⟩:=b
   simp only[jT] at hd
   obtain⟨d4,d5⟩:=hd
   rw[Val.ok_mk] at ha hb
   obtain⟨a1,a2,a3,a4,a5,a7,a6,a8⟩:=ha
   obtain⟨b1,b2,b3,b4,b5,b7,b6,b8⟩:=hb
   have h132:=vq w5 z5 48 (oz n) (fun x hx y hy=>ih x y (d4 x hx) (a7 x hx) (b7 y hy)) (by omega) (by omega)
   have h133:=vp w6 z6 106 (JG (oz n)) (fun x hx y hy=>M5 n ih x y (d5 x hx) (a8 x hx) (b8 y hy)) (by omega) (by omega)
   have h1:=Bf w1 z1
   have h2:=Bf w2 z2
   have h3:=Bf w3 z3
   have h4:=gx w4 z4
   simp only[oz,Val.kind,Val.num,Val.scale,Val.text,Val.lst,Val.fields]
   generalize dN (oz n) w5 z5=C5 at *
   generalize dN (JG (oz n)) w6 z6=C6 at *
   generalize wh w1 z1=C1 at *
   generalize wh w2 z2=C2 at *
   generalize wh w3 z3=C3 at *
   generalize Lib.compareBytes w4 z4=C4 at *
   have h130:=Mc [C1,C2,C3,C4,C5,C6] (by simp)
   refine aw.intro NX (by simp[F48]) ?_
   simp(maxSteps:=9^7) (disch:=first|exact dI|fail) only[F48,Val.pv_mk,push_cast,seval]
   refine ae h1 rfl ?_
   simp(maxSteps:=9^7) (disch:=first|exact dI|fail) only[push_cast,seval]
   refine ae h2 rfl ?_
   simp(maxSteps:=9^7) (disch:=first|exact dI|fail) only[push_cast,seval]
   refine ae h3 rfl ?_
   simp(maxSteps:=9^7) (disch:=first|exact dI|fail) only[push_cast,seval]
   refine ae h4 rfl ?_
   simp(maxSteps:=9^7) (disch:=first|exact dI|fail) only[push_cast,seval]
   refine ae h132 rfl ?_
   simp(maxSteps:=9^7) (disch:=first|exact dI|fail) only[push_cast,seval]
   refine ab.pure h133 rfl ?_
   simp(maxSteps:=9^7) (disch:=first|exact dI|fail) only[push_cast,seval]
   refine ab.pure h130 rfl ?_
   simp(maxSteps:=9^7) (disch:=first|exact dI|fail) only[push_cast,seval]
theorem Be {c:Val→Val→Int}{x:Fld}(h:∀ y,c x.value y=0↔x.value=y)(y:Fld):JG c x y=0↔x=y:=by
 obtain⟨a,v⟩:=x
 obtain⟨b,w⟩:=y
 unfold JG
 rw[kY]
 simp only[List.mem_cons,List.not_mem_nil,or_false,forall_eq_or_imp,forall_eq,Fld.name,Fld.value] at h ⊢
 rw[gz,h w,Fld.mk.injEq]
theorem jz:∀ (n:Nat) (a b:Val),jT n a→(oz n a b=0↔a=b)
 | 0,a,b,h=>h.elim
 | n+1,a,b,hd=>by
   have ih:=jz n
   obtain⟨w1,w2,w3,w4,w5,w6⟩:=a
   obtain⟨z1,z2,z3,z4,z5,z6⟩:=b
   simp only[jT] at hd
   obtain⟨d4,d5⟩:=hd
   simp only[oz,kY,List.mem_cons,List.not_mem_nil,or_false,forall_eq_or_imp,forall_eq,Val.kind,Val.num,Val.scale,Val.text,Val.lst,Val.fields]
   rw[jA,jA,jA,gz,jg w5 z5 (fun x hx y=>ih x y (d4 x hx)),jg w6 z6 (fun x hx y=>Be (fun v=>ih x.value v (d5 x hx)) y),Val.mk.injEq]
theorem AN (n:Nat)(a b:Val)(hd:jT n a)(ha:a.ok)(hb:b.ok):aw Tryz.prog aF 19 [a.pv,b.pv] (.bool (decide (oz n a b=0))):=by
 have hcall:=ky n a b hd ha hb
 generalize oz n a b=C at *
 obtain⟨w1,w2,w3,w4,w5,w6⟩:=a
 obtain⟨z1,z2,z3,z4,z5,z6⟩:=b
 simp only[Val.pv_mk] at hcall ⊢
 refine aw.intro Ob (by simp[F19]) ?_
 simp(maxSteps:=9^7) (disch:=first|exact dI|fail) only[F19,push_cast,seval]
 refine ab.pure hcall rfl ?_
 by_cases h0:C=0
 ·simp(maxSteps:=9^7) (disch:=first|exact dI|fail) only[h0,push_cast,seval]
 ·simp(maxSteps:=9^7) (disch:=first|exact dI|fail) only[h0,push_cast,seval]
end Go.Proofs.YtamoeblcphjbaaaGreatDoor
