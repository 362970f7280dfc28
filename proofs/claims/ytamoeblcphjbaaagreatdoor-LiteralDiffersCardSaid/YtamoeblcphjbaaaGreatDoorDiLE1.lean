/- A part of the proof for LiteralDiffersCardSaid. -/
import Derived.Test.YtamoeblcphjbaaaGreatDoorDiL15
import Derived.Test.YtamoeblcphjbaaaGreatDoorDiF
import Derived.Test.YtamoeblcphjbaaaGreatDoorDiLB
import Derived.Shelf.SlGeneric
import Derived.Shelf.SlSortCmp.WholeK
import Derived.Ground.SlsfProg
import Derived.Test.YtamoeblcphjbaaaGreatDoorProg
import Derived.WalkKit
import Derived.WalkMore
import Derived.Deep.Draws
import Derived.Test.YtamoeblcphjbaaaGreatDoorDiLC1
set_option maxRecDepth 100000
set_option linter.unusedVariables false
set_option linter.unusedSimpArgs false
-- many steps
namespace Go.Proofs.YtamoeblcphjbaaaGreatDoor
open Go Go.Ab
attribute [local irreducible] vc
def rJ (x y:Int):Int:=if x<y then -1 else if y<x then 1 else 0
def orI:List Int→Int
 | []=>0
 | x::r=>if x=0 then orI r else x
def c8 {α:Type}(c:α→α→Int):List α→List α→Int
 | [],[]=>0
 | [],_::_=>-1
 | _::_,[]=>1
 | x::r,y::q=>if c x y=0 then c8 c r q else c x y
def Ea (c:Val→Val→Int)(x y:Fld):Int:=orI [Lib.compareBytes x.name y.name,c x.value y.value]
def lV:Nat→Val→Val→Int
 | 0=>fun _ _=>0
 | n+1=>fun a b=>orI [rJ a.kind b.kind,rJ a.num b.num,rJ a.scale b.scale,Lib.compareBytes a.text b.text,c8 (lV n) a.lst b.lst,c8 (Ea (lV n)) a.fields b.fields]
theorem ir {x y:Int}:rJ x y=0↔x=y:=by
 unfold rJ;constructor
 ·intro h;split at h;· omega
  split at h<;>omega
 ·rintro rfl;rw[if_neg (by omega),if_neg (by omega)]
theorem jK:∀ l:List Int,orI l=0↔∀ x∈l,x=0
 | []=>by simp[orI]
 | x::r=>by
   rw[orI]
   by_cases h:x=0
   ·rw[if_pos h,jK r];simp[h]
   ·rw[if_neg h];simp[h]
theorem fB:∀ a b:List UInt8,Lib.compareBytes a b=0↔a=b
 | [],[]=>by simp[Lib.compareBytes]
 | [],_::_=>by simp[Lib.compareBytes]
 | _::_,[]=>by simp[Lib.compareBytes]
 | a::r,b::q=>by
   have ih:=fB r q
   rw[Lib.compareBytes]
   by_cases h1:a<b
   ·have:¬ a=b:=by rintro rfl;exact (UInt8.lt_irrefl a) h1
    simp[h1,this]
   ·by_cases h2:b<a
    ·have:¬ a=b:=by rintro rfl;exact (UInt8.lt_irrefl a) h2
     simp[h1,h2,this]
    ·have h3:a=b:=UInt8.le_antisymm (UInt8.not_lt.1 h2) (UInt8.not_lt.1 h1)
     simp[h1,h2,h3,ih]
theorem g8 {α:Type}{c:α→α→Int}:∀ (l k:List α),(∀ x∈l,∀ y,c x y=0↔x=y)→(c8 c l k=0↔l=k)
 | [],[],_=>by simp[c8]
 | [],_::_,_=>by simp[c8]
 | _::_,[],_=>by simp[c8]
 | x::r,y::q,h=>by
   have ih:=g8 r q (fun z hz=>h z (by simp[hz]))
   have h1:=h x (by simp) y
   rw[c8]
   by_cases h0:c x y=0
   ·rw[if_pos h0,ih];simp[h1.1 h0]
   ·rw[if_neg h0]
    constructor
    ·intro hh;exact absurd hh h0
    ·intro hh;cases hh;exact absurd (h1.2 rfl) h0
theorem Bj (x:Int):aq Tryz.prog aC 173 [.int .i64 x] (.bool false):=by
 refine aq.intro Ez (by simp[JD]) ?_
 simp(disch:=try exact dI) only[JD,eq_self,push_cast,seval]
theorem vU (x y:Int):aq Tryz.prog aC 102 [.int .i64 x,.int .i64 y] (.int .i64 (rJ x y)):=by
 refine aq.intro EI (by simp[JI]) ?_
 simp(disch:=try exact dI) only[JI,push_cast,seval]
 refine ab.pure (Bj x) rfl ?_
 simp(disch:=try exact dI) only[push_cast,seval]
 refine ab.pure (Bj y) rfl ?_
 by_cases h1:x<y
 ·simp(disch:=try exact dI) only[rJ,h1,push_cast,seval]
 ·by_cases h2:y<x
  ·simp(disch:=try exact dI) only[rJ,h1,h2,push_cast,seval]
  ·simp(disch:=try exact dI) only[rJ,h1,h2,push_cast,seval]
theorem FQ (l:List Int)(hl:l.length≤1000):aq Tryz.prog aC 101 [.list (l.map (PV.int .i64))] (.int .i64 (orI l)):=by
 refine aq.intro EJ (by simp[JJ]) ?_
 simp(disch:=try exact dI) only[JJ,push_cast,seval]
 refine aX ([]) (fun i:Nat=>[(8,.pv (.int .i64 (i:Int)))]) (fun _=>[]) (fun i=>i≤l.length∧orI l=orI (l.drop i)) (fun i=>l.length - i) (0) ?_;intro e0 σ0 n0 h0;simp(disch:=try exact dI) only[push_cast,seval] at h0;obtain⟨rfl,rfl,rfl⟩:=h0;refine⟨?_,?_,?_⟩
 ·simp(disch:=try exact dI) only[push_cast,seval]
 ·exact⟨Nat.zero_le _,rfl⟩
 rintro i ⟨hi,hpre⟩
 by_cases hlt:i<l.length
 ·have hltI:(i:Int)<l.length:=by omega
  obtain⟨x,hx⟩:∃ x,l[i]? = some x:=⟨l[i],List.getElem?_eq_getElem hlt⟩
  have hd:=dG hx
  by_cases h0:x=0
  ·simp(disch:=try exact dI) only[hx,h0,eq_self,push_cast,seval]
   exact⟨i+1,bX qsZ,⟨by omega,by rw[hpre,hd,orI,if_pos h0]⟩,by omega⟩
  ·simp(disch:=try exact dI) only[hx,h0,push_cast,seval]
   rw[hpre,hd,orI,if_neg h0]
 ·have hltI:¬ (i:Int)<l.length:=by omega
  simp(disch:=try exact dI) only[push_cast,seval]
  rw[hpre,List.drop_eq_nil_of_le (by omega)];rfl
theorem uR {α:Type}{c:α→α→Int}{l k:List α}{i:Nat}{x y:α}(h:c8 c l k=c8 c (l.drop i) (k.drop i))(hx:l[i]? = some x)(hy:k[i]? = some y)(h0:c x y=0):c8 c l k=c8 c (l.drop (i+1)) (k.drop (i+1)):=by
 rw[h,dG hx,dG hy,c8,if_pos h0]
theorem oE {α:Type}{c:α→α→Int}{l k:List α}{i:Nat}{x y:α}(h:c8 c l k=c8 c (l.drop i) (k.drop i))(hx:l[i]? = some x)(hy:k[i]? = some y)(h0:¬ c x y=0):c8 c l k=c x y:=by
 rw[h,dG hx,dG hy,c8,if_neg h0]
theorem lC {α:Type}{c:α→α→Int}{l k:List α}{i:Nat}{x:α}(h:c8 c l k=c8 c (l.drop i) (k.drop i))(hx:l[i]? = some x)(hy:¬ i<k.length):c8 c l k=1:=by
 have e:k.drop i=[]:=List.drop_eq_nil_of_le (by omega)
 rw[h,dG hx,e,c8]
theorem lD {α:Type}{c:α→α→Int}{l k:List α}(h:c8 c l k=c8 c (l.drop l.length) (k.drop l.length))(hk:l.length<k.length):c8 c l k = -1:=by
 obtain⟨y,hy⟩:∃ y,k[l.length]? = some y:=⟨_,List.getElem?_eq_getElem hk⟩
 rw[h,dG hy,List.drop_length,c8]
theorem oF {α:Type}{c:α→α→Int}{l k:List α}(h:c8 c l k=c8 c (l.drop l.length) (k.drop l.length))(hk:¬ l.length<k.length):c8 c l k=0:=by
 rw[h,List.drop_length,List.drop_eq_nil_of_le (by omega),c8]
set_option maxHeartbeats 4000000 in
theorem rk (l k:List Val)(g:Nat)(c:Val→Val→Int)(hg:∀ x∈l,∀ y∈k,aq Tryz.prog aC g [x.pv,y.pv] (.int .i64 (c x y)))(hl:l.length≤9000000000000)(hk:k.length≤9000000000000):aq Tryz.prog aC 104 [.list (l.map Val.pv),.list (k.map Val.pv),.clo g [] []] (.int .i64 (c8 c l k)):=by
 refine aq.intro EH (by simp[JH]) ?_
 generalize hR:c8 c l k=R
 simp(disch:=try exact dI) only[JH,push_cast,seval]
 refine aX ([]) (fun m:Nat=>[(13,.pv (.int .i64 (m:Int)))]) (fun m=>[]) (fun m=>m≤l.length∧m≤k.length∧c8 c l k=c8 c (l.drop m) (k.drop m)) (fun m=>l.length - m) (0) ?_;intro e0 σ0 n0 h0;simp(disch:=try exact dI) only[push_cast,seval] at h0;obtain⟨rfl,rfl,rfl⟩:=h0;refine⟨?_,?_,?_⟩
 ·simp(disch:=try exact dI) only[push_cast,seval]
 ·exact⟨Nat.zero_le _,Nat.zero_le _,rfl⟩
 ·rintro m ⟨hm,hm2,he⟩
  by_cases hlt:m<l.length
  ·have hltI:(m:Int)<l.length:=by omega
   obtain⟨x,hx⟩:∃ x,l[m]? = some x:=⟨_,List.getElem?_eq_getElem hlt⟩
   by_cases hlt2:m<k.length
   ·have hlt2I:(m:Int)<k.length:=by omega
    obtain⟨y,hy⟩:∃ y,k[m]? = some y:=⟨_,List.getElem?_eq_getElem hlt2⟩
    have hcall:=hg x (List.mem_of_getElem? hx) y (List.mem_of_getElem? hy)
    have hgo:=uR he hx hy
    have hhit:=oE he hx hy
    generalize c x y=C at *
    obtain⟨w1,w2,w3,w4,w5,w6⟩:=x
    obtain⟨z1,z2,z3,z4,z5,z6⟩:=y
    rw[Val.pv_mk,Val.pv_mk] at hcall
    simp(disch:=try exact dI) only[hx,hy,Val.pv_mk,push_cast,seval]
    refine ab.pure hcall rfl ?_
    by_cases h0:C=0
    ·subst h0
     simp(disch:=try exact dI) only[push_cast,seval]
     exact⟨m+1,bX qsZ,⟨by omega,by omega,hgo rfl⟩,by omega⟩
    ·simp(disch:=try exact dI) only[h0,push_cast,seval]
     rw[← hR,hhit h0]
   ·have hlt2I:¬ (m:Int)<k.length:=by omega
    rw[lC he hx hlt2] at hR
    subst hR
    obtain⟨w1,w2,w3,w4,w5,w6⟩:=x
    simp(disch:=try exact dI) only[hx,Val.pv_mk,push_cast,seval]
  ·have hltI:¬ (m:Int)<l.length:=by omega
   obtain rfl:m=l.length:=by omega
   by_cases hk2:l.length<k.length
   ·have hk2I:(l.length:Int)<k.length:=by omega
    rw[lD he hk2] at hR
    subst hR
    simp(disch:=try exact dI) only[push_cast,seval]
   ·have hk2I:¬ (l.length:Int)<k.length:=by omega
    rw[oF he hk2] at hR
    subst hR
    simp(disch:=try exact dI) only[push_cast,seval]
set_option maxHeartbeats 4000000 in
theorem rj (l k:List Fld)(g:Nat)(c:Fld→Fld→Int)(hg:∀ x∈l,∀ y∈k,aq Tryz.prog aC g [x.pv,y.pv] (.int .i64 (c x y)))(hl:l.length≤9000000000000)(hk:k.length≤9000000000000):aq Tryz.prog aC 105 [.list (l.map Fld.pv),.list (k.map Fld.pv),.clo g [] []] (.int .i64 (c8 c l k)):=by
 refine aq.intro EG (by simp[JG]) ?_
 generalize hR:c8 c l k=R
 simp(disch:=try exact dI) only[JG,push_cast,seval]
 refine aX ([]) (fun m:Nat=>[(13,.pv (.int .i64 (m:Int)))]) (fun m=>[]) (fun m=>m≤l.length∧m≤k.length∧c8 c l k=c8 c (l.drop m) (k.drop m)) (fun m=>l.length - m) (0) ?_;intro e0 σ0 n0 h0;simp(disch:=try exact dI) only[push_cast,seval] at h0;obtain⟨rfl,rfl,rfl⟩:=h0;refine⟨?_,?_,?_⟩
 ·simp(disch:=try exact dI) only[push_cast,seval]
 ·exact⟨Nat.zero_le _,Nat.zero_le _,rfl⟩
 ·rintro m ⟨hm,hm2,he⟩
  by_cases hlt:m<l.length
  ·have hltI:(m:Int)<l.length:=by omega
   obtain⟨x,hx⟩:∃ x,l[m]? = some x:=⟨_,List.getElem?_eq_getElem hlt⟩
   by_cases hlt2:m<k.length
   ·have hlt2I:(m:Int)<k.length:=by omega
    obtain⟨y,hy⟩:∃ y,k[m]? = some y:=⟨_,List.getElem?_eq_getElem hlt2⟩
    have hcall:=hg x (List.mem_of_getElem? hx) y (List.mem_of_getElem? hy)
    have hgo:=uR he hx hy
    have hhit:=oE he hx hy
    generalize c x y=C at *
    obtain⟨w0,⟨w1,w2,w3,w4,w5,w6⟩⟩:=x
    obtain⟨z0,⟨z1,z2,z3,z4,z5,z6⟩⟩:=y
    simp only[Fld.pv_mk,Val.pv_mk] at hcall
    simp(disch:=try exact dI) only[hx,hy,Fld.pv_mk,Val.pv_mk,push_cast,seval]
    refine ab.pure hcall rfl ?_
    by_cases h0:C=0
    ·subst h0
     simp(disch:=try exact dI) only[push_cast,seval]
     exact⟨m+1,bX qsZ,⟨by omega,by omega,hgo rfl⟩,by omega⟩
    ·simp(disch:=try exact dI) only[h0,push_cast,seval]
     rw[← hR,hhit h0]
   ·have hlt2I:¬ (m:Int)<k.length:=by omega
    rw[lC he hx hlt2] at hR
    subst hR
    obtain⟨w0,⟨w1,w2,w3,w4,w5,w6⟩⟩:=x
    simp(disch:=try exact dI) only[hx,Fld.pv_mk,Val.pv_mk,push_cast,seval]
  ·have hltI:¬ (m:Int)<l.length:=by omega
   obtain rfl:m=l.length:=by omega
   by_cases hk2:l.length<k.length
   ·have hk2I:(l.length:Int)<k.length:=by omega
    rw[lD he hk2] at hR
    subst hR
    simp(disch:=try exact dI) only[push_cast,seval]
   ·have hk2I:¬ (l.length:Int)<k.length:=by omega
    rw[oF he hk2] at hR
    subst hR
    simp(disch:=try exact dI) only[push_cast,seval]
set_option maxHeartbeats 4000000 in
theorem GH (n:Nat)(ih:∀ a b,iD n a→a.ok→b.ok→aq Tryz.prog aC 48 [a.pv,b.pv] (.int .i64 (lV n a b)))(x y:Fld)(hx:iD n x.value)(hxo:x.ok)(hyo:y.ok):aq Tryz.prog aC 106 [x.pv,y.pv] (.int .i64 (Ea (lV n) x y)):=by
 obtain⟨xn,xv⟩:=x
 obtain⟨yn,yv⟩:=y
 rw[Fld.ok_mk] at hxo hyo
 simp only[Fld.value] at hx
 have hcall:=ih xv yv hx hxo.2 hyo.2
 have h102:=fA xn yn
 simp only[Ea,Fld.name,Fld.value]
 have h130:=FQ [Lib.compareBytes xn yn,lV n xv yv] (by simp)
 generalize lV n xv yv=C at *
 generalize Lib.compareBytes xn yn=D at *
 obtain⟨w1,w2,w3,w4,w5,w6⟩:=xv
 obtain⟨z1,z2,z3,z4,z5,z6⟩:=yv
 simp only[Val.pv_mk] at hcall
 refine aq.intro EF (by simp[JF]) ?_
 simp(disch:=try exact dI) only[JF,Fld.pv_mk,Val.pv_mk,push_cast,seval]
 refine aM h102 rfl ?_
 simp(disch:=try exact dI) only[push_cast,seval]
 refine ab.pure hcall rfl ?_
 simp(disch:=try exact dI) only[push_cast,seval]
 refine ab.pure h130 rfl ?_
 simp(disch:=try exact dI) only[push_cast,seval]
set_option maxHeartbeats 4000000 in
theorem jl:∀ (n:Nat) (a b:Val),iD n a→a.ok→b.ok→aq Tryz.prog aC 48 [a.pv,b.pv] (.int .i64 (lV n a b))
 | 0,a,b,h,_,_=>h.elim
 | n+1,a,b,hd,ha,hb=>by
   have ih:=jl n
   obtain⟨w1,w2,w3,w4,w5,w6⟩:=a
   obtain⟨z1,z2,z3,z4,z5,z6⟩:=b
   simp only[iD] at hd
   obtain⟨d4,d5⟩:=hd
   rw[Val.ok_mk] at ha hb
   obtain⟨a1,a2,a3,a4,a5,a7,a6,a8⟩:=ha
   obtain⟨b1,b2,b3,b4,b5,b7,b6,b8⟩:=hb
   have h132:=rk w5 z5 48 (lV n) (fun x hx y hy=>ih x y (d4 x hx) (a7 x hx) (b7 y hy)) (by omega) (by omega)
   have h133:=rj w6 z6 106 (Ea (lV n)) (fun x hx y hy=>GH n ih x y (d5 x hx) (a8 x hx) (b8 y hy)) (by omega) (by omega)
   have h1:=vU w1 z1
   have h2:=vU w2 z2
   have h3:=vU w3 z3
   have h4:=fA w4 z4
   simp only[lV,Val.kind,Val.num,Val.scale,Val.text,Val.lst,Val.fields]
   generalize c8 (lV n) w5 z5=C5 at *
   generalize c8 (Ea (lV n)) w6 z6=C6 at *
   generalize rJ w1 z1=C1 at *
   generalize rJ w2 z2=C2 at *
   generalize rJ w3 z3=C3 at *
   generalize Lib.compareBytes w4 z4=C4 at *
   have h130:=FQ [C1,C2,C3,C4,C5,C6] (by simp)
   refine aq.intro Hy (by simp[F48]) ?_
   simp(disch:=try exact dI) only[F48,Val.pv_mk,push_cast,seval]
   refine aM h1 rfl ?_
   simp(disch:=try exact dI) only[push_cast,seval]
   refine aM h2 rfl ?_
   simp(disch:=try exact dI) only[push_cast,seval]
   refine aM h3 rfl ?_
   simp(disch:=try exact dI) only[push_cast,seval]
   refine aM h4 rfl ?_
   simp(disch:=try exact dI) only[push_cast,seval]
   refine aM h132 rfl ?_
   simp(disch:=try exact dI) only[push_cast,seval]
   refine ab.pure h133 rfl ?_
   simp(disch:=try exact dI) only[push_cast,seval]
   refine ab.pure h130 rfl ?_
   simp(disch:=try exact dI) only[push_cast,seval]
theorem vT {c:Val→Val→Int}{x:Fld}(h:∀ y,c x.value y=0↔x.value=y)(y:Fld):Ea c x y=0↔x=y:=by
 obtain⟨a,v⟩:=x
 obtain⟨b,w⟩:=y
 unfold Ea
 rw[jK]
 simp only[List.mem_cons,List.not_mem_nil,or_false,forall_eq_or_imp,forall_eq,Fld.name,Fld.value] at h ⊢
 rw[fB,h w,Fld.mk.injEq]
theorem lU:∀ (n:Nat) (a b:Val),iD n a→(lV n a b=0↔a=b)
 | 0,a,b,h=>h.elim
 | n+1,a,b,hd=>by
   have ih:=lU n
   obtain⟨w1,w2,w3,w4,w5,w6⟩:=a
   obtain⟨z1,z2,z3,z4,z5,z6⟩:=b
   simp only[iD] at hd
   obtain⟨d4,d5⟩:=hd
   simp only[lV,jK,List.mem_cons,List.not_mem_nil,or_false,forall_eq_or_imp,forall_eq,Val.kind,Val.num,Val.scale,Val.text,Val.lst,Val.fields]
   rw[ir,ir,ir,fB,g8 w5 z5 (fun x hx y=>ih x y (d4 x hx)),g8 w6 z6 (fun x hx y=>vT (fun v=>ih x.value v (d5 x hx)) y),Val.mk.injEq]
theorem D2 (n:Nat)(a b:Val)(hd:iD n a)(ha:a.ok)(hb:b.ok):aq Tryz.prog aC 19 [a.pv,b.pv] (.bool (decide (lV n a b=0))):=by
 have hcall:=jl n a b hd ha hb
 generalize lV n a b=C at *
 obtain⟨w1,w2,w3,w4,w5,w6⟩:=a
 obtain⟨z1,z2,z3,z4,z5,z6⟩:=b
 simp only[Val.pv_mk] at hcall ⊢
 refine aq.intro HL (by simp[F19]) ?_
 simp(disch:=try exact dI) only[F19,push_cast,seval]
 refine ab.pure hcall rfl ?_
 by_cases h0:C=0
 ·simp(disch:=try exact dI) only[h0,push_cast,seval]
 ·simp(disch:=try exact dI) only[h0,push_cast,seval]
end Go.Proofs.YtamoeblcphjbaaaGreatDoor
-- many steps
namespace Go.Proofs.YtamoeblcphjbaaaGreatDoor
open Go Go.Ab
attribute [local irreducible] vc
section
variable {T:Nat}{p:PV}
end
end Go.Proofs.YtamoeblcphjbaaaGreatDoor
-- many steps
namespace Go.Proofs.YtamoeblcphjbaaaGreatDoor
open Go Go.Ab
attribute [local irreducible] vc
section
variable {T:Nat}{p:PV}
theorem AZ {R:Rd}{k:Int}(h:R.e=0)(hk:R.now.kind=k):kw R k=(R.now,fE R):=by
 have e:(if R.e=0∧R.now.kind≠k then bK R R.now.pos 13 else R)=R:=if_neg (fun q=>q.2 hk)
 unfold kw
 rw[e]
 exact if_pos h
theorem take_2 {R:Rd}{k:Int}(h:R.e=0)(hk:¬ R.now.kind=k):kw R k=({},bK R R.now.pos 13):=by
 have e:(if R.e=0∧R.now.kind≠k then bK R R.now.pos 13 else R)=bK R R.now.pos 13:=if_pos ⟨h,hk⟩
 unfold kw
 rw[e]
 exact if_neg (Gq (by decide))
theorem take_3 {R:Rd}{k:Int}(h:¬ R.e=0):kw R k=({},R):=by
 have e:(if R.e=0∧R.now.kind≠k then bK R R.now.pos 13 else R)=R:=if_neg (fun q=>h q.1)
 unfold kw
 rw[e]
 exact if_neg h
def rd0 (s:List UInt8):Rd:=⟨s,0,{},0,0⟩
theorem Cf {s:List UInt8}(h:¬ 65536<s.length):kz s=fE (rd0 s):=by
 unfold kz
 simp only[if_neg h]
 rfl
end
end Go.Proofs.YtamoeblcphjbaaaGreatDoor
-- many steps
namespace Go.Proofs.YtamoeblcphjbaaaGreatDoor
open Go Go.Ab
attribute [local irreducible] vc
end Go.Proofs.YtamoeblcphjbaaaGreatDoor
/-
 DERIVED: THE SHELF's CONTRACTS AT THIS DUMP,IN PLAIN WORDS (tools/lay-plain.mjs out of 'TryzC9.lean',which tools/lay-shelf.mjs wrote): THE SAME DECLARATIONS UNDER THE SAME NAMES: 'import','namespace','open','def','theorem' AND NOTHING ELSE: no command of the shelf's: FOR A HAND-IN. Each laying: the table of numbers ('.._ren') and one theorem,a field a fact of the dump's own or the kernel's comparison;each gi: ONE APPLICATION.
-/
namespace Go.Proofs
open Go.Shelf
end Go.Proofs
namespace Go.Proofs.YtamoeblcphjbaaaGreatDoor
open Go Go.Proofs Go.Shelf Go.RowKit Go.Lib Go.Sort
structure FldC where
 name:ByteArray
 c1:Value
 c2:Value
 c3:Value
 c4:Value
 c5:Value
 c6:Value
 one:c1.oneCell'=true∧c2.oneCell'=true∧c3.oneCell'=true∧c4.oneCell'=true∧c5.oneCell'=true∧c6.oneCell'=true
instance:Inhabited FldC:=⟨⟨.empty,.int .i64 0,.int .i64 0,.int .i64 0,.int .i64 0,.int .i64 0,.int .i64 0,by decide⟩⟩
end Go.Proofs.YtamoeblcphjbaaaGreatDoor
