/- A part of the proof for CodecUsualCardSaid. -/
import Derived.Test.YtfepkhlgopjaoaaGreatDoorUsF
import Derived.Test.YtfepkhlgopjaoaaGreatDoorUsKD2
import Derived.Test.YtfepkhlgopjaoaaGreatDoorUsCore6
import Derived.Test.YtfepkhlgopjaoaaGreatDoorUsKS7
import Derived.Test.YtfepkhlgopjaoaaGreatDoorUsKR6
set_option linter.unusedVariables false
set_option linter.unusedSimpArgs false
set_option maxRecDepth 100000
namespace Go.Proofs.YtfepkhlgopjaoaaGreatDoor
open Go Go.Ab
attribute [local irreducible] vc
theorem w8 (l:List TFd)(g:Nat)(cs:List PV)(q:TFd→Bool)(hq:∀ x∈l,ap Tryz.prog az g (x.pv::cs) (.bool (q x)))(hl:l.length≤9000000000000) :
  ap Tryz.prog az 180 [.list (l.map TFd.pv),.clo g [] cs] (.int .i64 (dq q l 0)):=by
 refine ap.intro zq (by simp[LF]) ?_
 simp(disch:=try exact dI) only[LF,push_cast,seval]
 refine aB ([]) (fun m:Nat=>[(8,.pv (.int .i64 (m:Int)))]) (fun m=>[]) (fun m=>m≤l.length∧dq q l 0=dq q (l.drop m) m) (fun m=>l.length - m) (0) ?_;intro e0 σ0 n0 h0;simp(disch:=try exact dI) only[push_cast,seval] at h0;obtain⟨rfl,rfl,rfl⟩:=h0;refine⟨?_,?_,?_⟩
 ·simp(disch:=try exact dI) only[push_cast,seval]
 ·exact⟨by omega,by simp⟩
 ·rintro m ⟨hm,he⟩
  by_cases hlt:m<l.length
  ·have hltI:(m:Int)<l.length:=by omega
   obtain⟨x,hx⟩:∃ x,l[m]? = some x:=⟨_,List.getElem?_eq_getElem hlt⟩
   have hcall:=hq x (List.mem_of_getElem? hx)
   simp(disch:=try exact dI) only[hx,TFd.cells_len,TFd.isAgg,push_cast,seval]
   refine ae.pure hcall (by exact oI (x.pv::cs)) ?_
   cases hqx:q x with
   | true=>
     rw[he,dA hx hqx]
     simp(disch:=try exact dI) only[push_cast,seval]
   | false=>
     rw[cg hx hqx] at he
     simp(disch:=try exact dI) only[push_cast,seval]
     exact⟨m+1,bH qsZ,⟨by omega,he⟩,by omega⟩
  ·have hltI:¬ (m:Int)<l.length:=by omega
   rw[he,dB hlt]
   simp(disch:=try exact dI) only[push_cast,seval]
theorem jb (l:List TFd)(g:Nat)(cs:List PV)(q:TFd→Bool)(hq:∀ x∈l,ap Tryz.prog az g (x.pv::cs) (.bool (q x)))(hl:l.length≤9000000000000) :
  ap Tryz.prog az 103 [.list (l.map TFd.pv),.clo g [] cs] (.bool (l.any q)):=by
 have h94:=w8 l g cs q hq hl
 have hfa:=cQ (p:=q) l
 refine ap.intro zu (by simp[Ik]) ?_
 rcases bv (p:=q) l 0 with ⟨h1,h2⟩ | ⟨k,x,h1,h2,h3⟩
 ·rw[h2] at h94
  rw[h1] at hfa
  rw[← hfa]
  simp(disch:=try exact dI) only[Ik,push_cast,seval]
  refine ae.pure h94 rfl ?_
  simp(disch:=try exact dI) only[push_cast,seval]
  exact .refl _
 ·rw[h3] at h94
  rw[h2] at hfa
  rw[← hfa]
  have hk:(0:Int)≤((0+k:Nat):Int):=by omega
  generalize ((0+k:Nat):Int)=z at *
  simp(disch:=try exact dI) only[Ik,push_cast,seval]
  refine ae.pure h94 rfl ?_
  simp(disch:=try exact dI) only[push_cast,seval]
  exact .refl _
def sh (f:TFd):Bool:=decide (f.typ.kind<1)||decide (7<f.typ.kind)
theorem Ka (f:TFd):ap Tryz.prog az 104 [f.pv] (.bool (sh f)):=by
 obtain⟨a,b,c,⟨k,m,n,s,w,e,fs⟩,d⟩:=f
 refine ap.intro Ij (by simp[LO]) ?_
 simp only[sh,TFd.typ,Typ.kind]
 by_cases h1:k<1
 ·simp(disch:=try exact dI) only[LO,TFd.pv_mk,Typ.pv_mk,push_cast,seval]
  simp[h1]
 ·by_cases h2:7<k
  ·simp(disch:=try exact dI) only[LO,TFd.pv_mk,Typ.pv_mk,push_cast,seval]
   simp[h1,h2]
  ·simp(disch:=try exact dI) only[LO,TFd.pv_mk,Typ.pv_mk,push_cast,seval]
   simp[h1,h2]
def fV:Typ→Bool
 | .mk k _ _ _ _ _ f=>decide (k=9)&&(decide (0<f.length)&&!(f.any sh))
theorem Ea (t:Typ)(h:t.fields.length≤9000000000000):ap Tryz.prog az 59 [t.pv] (.bool (fV t)):=by
 obtain⟨k,m,n,s,w,e,f⟩:=t
 simp only[Typ.fields] at h
 have h64:=jb f 104 [] sh (fun x _=>Ka x) (by omega)
 refine ap.intro Li (by simp[F59]) ?_
 simp only[fV]
 by_cases h1:k=9
 ·by_cases h2:0<f.length
  ·have h2I:(0:Int)<f.length:=by omega
   simp(disch:=try exact dI) only[F59,Typ.pv_mk,h1,push_cast,seval]
   refine ae.pure h64 rfl ?_
   simp(disch:=try exact dI) only[push_cast,seval]
  ·have h2I:¬ (0:Int)<f.length:=by omega
   simp(disch:=try exact dI) only[F59,Typ.pv_mk,h1,push_cast,seval]
 ·simp(disch:=try exact dI) only[F59,Typ.pv_mk,h1,push_cast,seval]
end Go.Proofs.YtfepkhlgopjaoaaGreatDoor
namespace Go.Proofs.YtfepkhlgopjaoaaGreatDoor
open Go Go.Ab
attribute [local irreducible] vc
def named (name:List UInt8)(x:TFd):Bool:=decide (x.name=name)
def fJ (name:List UInt8)(x:Fld):Bool:=decide (x.name=name)
def iC:TFd:=.mk 0 [] 0 (.mk 0 0 0 0 [] [] []) []
def EA:Val:=.mk 0 0 0 [] [] []
def tfR (o:Option TFd):PV:=.tup [(o.getD iC).pv,.bool o.isSome]
def vlR (o:Option Val):PV:=.tup [(o.getD EA).pv,.bool o.isSome]
theorem Cn (l:List (List UInt8))(s:List UInt8)(h:l.length≤9000000000000):ap Tryz.prog az 181 [.list (l.map PV.str),.str s] (.int .i64 (dq (fun x=>decide (x=s)) l 0)):=by
 refine ap.intro HZ (by simp[NC]) ?_
 generalize hR:dq (fun x=>decide (x=s)) l 0=R
 simp(disch:=try exact dI) only[NC,push_cast,seval]
 refine aB ([]) (fun m:Nat=>[(8,.pv (.int .i64 (m:Int)))]) (fun m=>[]) (fun m=>m≤l.length∧R=dq (fun x=>decide (x=s)) (l.drop m) m) (fun m=>l.length - m) (0) ?_;intro e0 σ0 n0 h0;simp(disch:=try exact dI) only[push_cast,seval] at h0;obtain⟨rfl,rfl,rfl⟩:=h0;refine⟨?_,?_,?_⟩
 ·simp(disch:=try exact dI) only[push_cast,seval]
 ·exact⟨by omega,hR.symm⟩
 ·rintro i ⟨hi,he⟩
  by_cases hlt:i<l.length
  ·have hltI:(i:Int)<l.length:=by omega
   obtain⟨x,hx⟩:∃ x,l[i]? = some x:=⟨_,List.getElem?_eq_getElem hlt⟩
   by_cases hn:s=x
   ·rw[he,dA hx (by simp[hn])]
    simp(disch:=try exact dI) only[hx,hn,push_cast,seval]
   ·rw[cg hx (by simp;exact fun h=>hn h.symm)] at he
    simp(disch:=try exact dI) only[hx,hn,push_cast,seval]
    exact⟨i+1,bH qsZ,⟨by omega,he⟩,by omega⟩
  ·have hltI:¬ (i:Int)<l.length:=by omega
   rw[he,dB hlt]
   simp(disch:=try exact dI) only[push_cast,seval]
theorem ja (l:List (List UInt8))(s:List UInt8)(h:l.length≤9000000000000):ap Tryz.prog az 105 [.list (l.map PV.str),.str s] (.bool (l.any fun x=>decide (x=s))):=by
 have h111:=Cn l s h
 have hfa:=cQ (p:=fun x=>decide (x=s)) l
 refine ap.intro Ii (by simp[L5]) ?_
 rcases bv (p:=fun x=>decide (x=s)) l 0 with ⟨h1,h2⟩ | ⟨k,x,h1,h2,h3⟩
 ·rw[h2] at h111
  rw[h1] at hfa
  rw[← hfa]
  simp(disch:=try exact dI) only[L5,push_cast,seval]
  refine ae.pure h111 rfl ?_
  simp(disch:=try exact dI) only[push_cast,seval]
  exact .refl _
 ·rw[h3] at h111
  rw[h2] at hfa
  rw[← hfa]
  have hk:(0:Int)≤((0+k:Nat):Int):=by omega
  generalize ((0+k:Nat):Int)=z at *
  simp(disch:=try exact dI) only[L5,push_cast,seval]
  refine ae.pure h111 rfl ?_
  simp(disch:=try exact dI) only[push_cast,seval]
  exact .refl _
theorem Km (x:Fld)(name:List UInt8):ap Tryz.prog az 198 [x.pv,.eptr [.str name] 0 0] (.bool (fJ name x)):=by
 obtain⟨a,⟨k,m,n,s,w,e⟩⟩:=x
 refine ap.intro HW (by simp[Ny]) ?_
 simp(disch:=try exact dI) only[Ny,Fld.pv_mk,Val.pv_mk,fJ,Fld.name,push_cast,seval]
 exact decide_eq_decide.2 Iff.rfl
theorem Cl (l:List Fld)(g:Nat)(cs:List PV)(q:Fld→Bool)(hq:∀ x∈l,ap Tryz.prog az g (x.pv::cs) (.bool (q x)))(hl:l.length≤9000000000000) :
  ap Tryz.prog az 197 [.list (l.map Fld.pv),.clo g [] cs] (.int .i64 (dq q l 0)):=by
 refine ap.intro HX (by simp[NA]) ?_
 simp(disch:=try exact dI) only[NA,push_cast,seval]
 refine aB ([]) (fun m:Nat=>[(8,.pv (.int .i64 (m:Int)))]) (fun m=>[]) (fun m=>m≤l.length∧dq q l 0=dq q (l.drop m) m) (fun m=>l.length - m) (0) ?_;intro e0 σ0 n0 h0;simp(disch:=try exact dI) only[push_cast,seval] at h0;obtain⟨rfl,rfl,rfl⟩:=h0;refine⟨?_,?_,?_⟩
 ·simp(disch:=try exact dI) only[push_cast,seval]
 ·exact⟨by omega,by simp⟩
 ·rintro m ⟨hm,he⟩
  by_cases hlt:m<l.length
  ·have hltI:(m:Int)<l.length:=by omega
   obtain⟨x,hx⟩:∃ x,l[m]? = some x:=⟨_,List.getElem?_eq_getElem hlt⟩
   have hcall:=hq x (List.mem_of_getElem? hx)
   simp(disch:=try exact dI) only[hx,Fld.cells_len,Fld.isAgg,push_cast,seval]
   refine ae.pure hcall (by exact oI (x.pv::cs)) ?_
   cases hqx:q x with
   | true=>
     rw[he,dA hx hqx]
     simp(disch:=try exact dI) only[push_cast,seval]
   | false=>
     rw[cg hx hqx] at he
     simp(disch:=try exact dI) only[push_cast,seval]
     exact⟨m+1,bH qsZ,⟨by omega,he⟩,by omega⟩
  ·have hltI:¬ (m:Int)<l.length:=by omega
   rw[he,dB hlt]
   simp(disch:=try exact dI) only[push_cast,seval]
theorem Ci (v:Val)(name:List UInt8)(h:v.fields.length≤9000000000000):ap Tryz.prog az 113 [v.pv,.str name] (.int .i64 (dq (fJ name) v.fields 0)):=by
 obtain⟨k,i,s,t,l,f⟩:=v
 simp only[Val.fields] at h ⊢
 have h117:=Cl f 198 [.eptr [.str name] 0 0] (fJ name) (fun x _=>Km x name) (by omega)
 refine ap.intro Ic (by simp[NJ]) ?_
 simp(disch:=try exact dI) only[NJ,Val.pv_mk,push_cast,seval]
 refine ae.pure h117 rfl ?_
 simp(disch:=try exact dI) only[push_cast,seval]
theorem CK (v:Val)(name:List UInt8)(hv:v.ok)(hk:v.kind=9)(h:v.fields.length≤9000000000000):ap Tryz.prog az 66 [v.pv,.str name] (vlR ((v.fields.find? (fJ name)).map Fld.value)):=by
 have h127:=Ci v name h
 obtain⟨k,i,s,t,l,f⟩:=v
 rw[Val.ok_mk] at hv
 simp only[Val.fields,Val.kind] at h hk h127 ⊢
 rw[Val.pv_mk] at h127
 refine ap.intro Ld (by simp[F66]) ?_
 rcases bv (p:=fJ name) f 0 with ⟨h1,h2⟩ | ⟨i',x,h1,h2,h3⟩
 ·rw[h1]
  rw[h2] at h127
  simp(disch:=try exact dI) only[F66,Val.pv_mk,push_cast,seval]
  refine ae.pure h127 rfl ?_
  simp(disch:=try exact dI) only[hk,vlR,Option.map_none,Option.getD_none,Option.isSome_none,EA,Val.pv_mk,push_cast,seval]
 ·rw[h2]
  rw[h3,Nat.zero_add] at h127
  have hxo:=hv.2.2.2.2.2.2.2 x (List.mem_of_getElem? h1)
  obtain⟨x1,x2⟩:=x
  rw[Fld.ok_mk] at hxo
  have hcl:=lN _ x2 (Nat.lt_succ_self _) hxo.2
  obtain⟨y1,y2,y3,y4,y5,y6⟩:=x2
  rw[Val.pv_mk] at hcl
  have hi:¬ (i':Int)<0:=by omega
  simp(disch:=try exact dI) only[F66,Val.pv_mk,push_cast,seval]
  refine ae.pure h127 rfl ?_
  simp(disch:=try exact dI) only[h1,hk,Fld.pv_mk,Val.pv_mk,push_cast,seval]
  refine ae.pure hcl rfl ?_
  simp(disch:=try exact dI) only[vlR,Option.map_some,Fld.value,Option.getD_some,Option.isSome_some,Val.pv_mk,push_cast,seval]
end Go.Proofs.YtfepkhlgopjaoaaGreatDoor
-- many steps
namespace Go.Proofs.YtfepkhlgopjaoaaGreatDoor
open Go Go.Ab
attribute [local irreducible] vc
theorem CZ (w:List (List UInt8))(hw:w.length*16≤140737488351232):ap Tryz.prog az 385 [.list (w.map PV.str)] (.list (w.map PV.str)):=by
 refine ap.intro Hx (by simp[LZ]) ?_
 cases w with
 | nil=>
   simp(maxSteps:=9^7) (disch:=try exact dI) only[LZ,push_cast,seval]
   intro b
   cases b<;>simp(maxSteps:=9^7) (disch:=try exact dI) only[push_cast,seval]
 | cons x r=>
   rw[List.length_cons] at hw
   simp(maxSteps:=9^7) (disch:=try exact dI) only[LZ,push_cast,seval]
set_option maxHeartbeats 4000000 in
theorem pn (n:Int)(nm:List UInt8)(nd k m M s:Int)(w:List (List UInt8))(e:List Typ)(f:List TFd)(d:List Val)(hT:ap Tryz.prog az 354 [(Typ.mk k m M s w e f).pv] (Typ.mk k m M s w e f).pv)(hd:d.length*88≤140737488351232)(hv:∀ v∈d,v.ok) :
  ap Tryz.prog az 310 [(TFd.mk n nm nd (Typ.mk k m M s w e f) d).pv] (TFd.mk n nm nd (Typ.mk k m M s w e f) d).pv:=by
 simp only[Typ.pv_mk] at hT
 refine ap.intro Hz (by simp[Nk]) ?_
 simp(maxSteps:=9^7) (disch:=try exact dI) only[Nk,TFd.pv_mk,Typ.pv_mk,ag,push_cast,seval]
 refine ae.pure hT rfl ?_
 simp(maxSteps:=9^7) (disch:=try exact dI) only[push_cast,seval]
 refine aB ([]) (fun i:Nat=>[(17,.pv (.int .i64 (i:Int))),(3,.olist 2 6 ((d.take i).map Val.pv))]) (fun _=>[]) (fun i=>i≤d.length) (fun i=>d.length - i) (0) ?_;intro e0 σ0 n0 h0;simp(maxSteps:=9^7) (disch:=try exact dI) only[push_cast,seval] at h0;obtain⟨rfl,rfl,rfl⟩:=h0;refine⟨?_,?_,?_⟩
 ·simp(maxSteps:=9^7) (disch:=try exact dI) only[push_cast,seval]
 ·omega
 intro i hi
 by_cases hlt:i<d.length
 ·have hltI:(i:Int)<(d.length:Int):=by omega
  obtain⟨x,hx⟩:∃ x,d[i]? = some x:=⟨_,List.getElem?_eq_getElem hlt⟩
  have hc:=lN _ x (Nat.lt_succ_self _) (hv x (List.mem_of_getElem? hx))
  have hts:=aR hx
  have hlt2:(d.take i).length=i:=by rw[List.length_take];omega
  obtain⟨vk,vn,vs,vt,vl,vf⟩:=x
  simp only[Val.pv_mk] at hc
  simp(maxSteps:=9^7) (disch:=try exact dI) only[hx,Option.map_some,Val.pv_mk,push_cast,seval]
  refine ae.pure hc rfl ?_
  simp(maxSteps:=9^7) (disch:=try exact dI) only[hlt2,push_cast,seval]
  exact⟨i+1,bH (by simp(maxSteps:=9^7) (disch:=try exact dI) only[hts,List.map_append,Val.pv_mk,push_cast,seval]),by omega,by omega⟩
 ·obtain rfl:i=d.length:=by omega
  simp(maxSteps:=9^7) (disch:=try exact dI) only[List.take_length,Int.lt_irrefl,push_cast,seval]
def bd:Nat→Typ→Prop
 | 0,_=>False
 | n+1,.mk k m M s w e f=>w.length*16≤140737488351232∧e.length*104≤140737488351232∧f.length*160≤140737488351232∧(∀ x∈e,bd n x)∧∀ g∈f,g.dflt.length*88≤140737488351232∧(∀ v∈g.dflt,v.ok)∧bd n g.typ
set_option maxHeartbeats 4000000 in
theorem pm:∀ (n:Nat) (t:Typ),bd n t→ap Tryz.prog az 354 [t.pv] t.pv
 | 0,_,h=>h.elim
 | n+1,.mk k m M s w e f,h=>by
   have ih:=pm n
   simp only[bd] at h
   obtain⟨hw,hel,hfl,he,hf⟩:=h
   have h297:=CZ w hw
   refine ap.intro Hy (by simp[Nj]) ?_
   simp(maxSteps:=9^7) (disch:=try exact dI) only[Nj,Typ.pv_mk,push_cast,seval]
   refine aB ([]) (fun i:Nat=>[(16,.pv (.int .i64 (i:Int))),(3,.olist 2 7 ((e.take i).map Typ.pv))]) (fun _=>[]) (fun i=>i≤e.length) (fun i=>e.length - i) (0) ?_;intro e0 σ0 n0 h0;simp(maxSteps:=9^7) (disch:=try exact dI) only[push_cast,seval] at h0;obtain⟨rfl,rfl,rfl⟩:=h0;refine⟨?_,?_,?_⟩
   ·simp(maxSteps:=9^7) (disch:=try exact dI) only[push_cast,seval]
   ·omega
   intro i hi
   by_cases hlt:i<e.length
   ·have hltI:(i:Int)<(e.length:Int):=by omega
    obtain⟨x,hx⟩:∃ x,e[i]? = some x:=⟨_,List.getElem?_eq_getElem hlt⟩
    have hc:=ih x (he x (List.mem_of_getElem? hx))
    have hts:=aR hx
    have hlt2:(e.take i).length=i:=by rw[List.length_take];omega
    obtain⟨k',m',M',s',w',e',f'⟩:=x
    simp only[Typ.pv_mk] at hc
    simp(maxSteps:=9^7) (disch:=try exact dI) only[hx,Option.map_some,Typ.pv_mk,ag,push_cast,seval]
    refine ae.pure hc rfl ?_
    simp(maxSteps:=9^7) (disch:=try exact dI) only[hlt2,push_cast,seval]
    exact⟨i+1,bH (by simp(maxSteps:=9^7) (disch:=try exact dI) only[hts,List.map_append,Typ.pv_mk,push_cast,seval]),by omega,by omega⟩
   obtain rfl:i=e.length:=by omega
   clear hi hlt
   simp(maxSteps:=9^7) (disch:=try exact dI) only[List.take_length,Int.lt_irrefl,push_cast,seval]
   refine aB ([]) (fun i:Nat=>[(33,.pv (.int .i64 (i:Int))),(6,.olist 3 11 ((f.take i).map TFd.pv))]) (fun _=>[]) (fun i=>i≤f.length) (fun i=>f.length - i) (0) ?_;intro e0 σ0 n0 h0;simp(maxSteps:=9^7) (disch:=try exact dI) only[push_cast,seval] at h0;obtain⟨rfl,rfl,rfl⟩:=h0;refine⟨?_,?_,?_⟩
   ·simp(maxSteps:=9^7) (disch:=try exact dI) only[push_cast,seval]
   ·omega
   intro i hi
   by_cases hlt:i<f.length
   ·have hltI:(i:Int)<(f.length:Int):=by omega
    obtain⟨x,hx⟩:∃ x,f[i]? = some x:=⟨_,List.getElem?_eq_getElem hlt⟩
    obtain⟨hdl,hdv,hds⟩:=hf x (List.mem_of_getElem? hx)
    have hts:=aR hx
    have hlt2:(f.take i).length=i:=by rw[List.length_take];omega
    obtain⟨n',nm',nd',⟨k',m',M',s',w',e',f'⟩,d'⟩:=x
    have hc:=pn n' nm' nd' k' m' M' s' w' e' f' d' (ih _ hds) hdl hdv
    simp only[TFd.pv_mk,Typ.pv_mk,ag] at hc
    simp(maxSteps:=9^7) (disch:=try exact dI) only[hx,Option.map_some,TFd.pv_mk,Typ.pv_mk,ag,push_cast,seval]
    refine ae.pure hc rfl ?_
    simp(maxSteps:=9^7) (disch:=try exact dI) only[hlt2,push_cast,seval]
    exact⟨i+1,bH (by simp(maxSteps:=9^7) (disch:=try exact dI) only[hts,List.map_append,TFd.pv_mk,Typ.pv_mk,ag,push_cast,seval]),by omega,by omega⟩
   obtain rfl:i=f.length:=by omega
   clear hi hlt
   simp(maxSteps:=9^7) (disch:=try exact dI) only[List.take_length,Int.lt_irrefl,push_cast,seval]
   refine ae.pure h297 rfl ?_
   simp(maxSteps:=9^7) (disch:=try exact dI) only[push_cast,seval]
end Go.Proofs.YtfepkhlgopjaoaaGreatDoor
namespace Go.Proofs.YtfepkhlgopjaoaaGreatDoor
open Go Go.Ab
attribute [local irreducible] vc
theorem ed:∀ (n:Nat) (t:Typ),bd n t→bd (n+1) t
 | 0,_,h=>h.elim
 | n+1,.mk k m M s w e f,h=>by
   obtain⟨h1,h2,h3,h4,h5⟩:=h
   exact⟨h1,h2,h3,fun x hx=>ed n x (h4 x hx),fun g hg=>⟨(h5 g hg).1,(h5 g hg).2.1,ed n g.typ (h5 g hg).2.2⟩⟩
theorem eB {n m:Nat}(h:n≤m){t:Typ}(ht:bd n t):bd m t:=by
 induction h with
 | refl=>exact ht
 | step _ ih=>exact ed _ _ ih
theorem gx {α:Type}(g:α→Typ):∀ l:List α,(∀ x∈l,∃ n,bd n (g x))→∃ n,∀ x∈l,bd n (g x)
 | [],_=>⟨0,by simp⟩
 | x::r,h=>by
   obtain⟨n,hn⟩:=h x (by simp)
   obtain⟨m,hm⟩:=gx g r fun y hy=>h y (List.mem_cons_of_mem _ hy)
   refine⟨max n m,fun y hy=>?_⟩
   rcases List.mem_cons.1 hy with rfl | hy
   ·exact eB (Nat.le_max_left _ _) hn
   ·exact eB (Nat.le_max_right _ _) (hm y hy)
theorem jr:∀ (t:Typ),t.ok→∃ n,bd n t
 | .mk k m M s w e f,h=>by
   rw[Typ.ok_mk] at h
   obtain⟨_,_,_,_,h1,_,h2,h3,h4,h5⟩:=h
   have e1:∀ x∈e,∃ n,bd n x:=fun x hx=>jr x (h3 x hx)
   have f1:∀ g∈f,∃ n,bd n g.typ:=fun g hg=>by
    have hg':=h5 g hg
    obtain⟨a1,a2,a3,a4,a5⟩:=g
    rw[TFd.ok_mk] at hg'
    exact jr a4 hg'.2.2.2.1
   obtain⟨a,ha⟩:=gx id e e1
   obtain⟨b,hb⟩:=gx TFd.typ f f1
   refine⟨max a b+1,h1,h2,h4,fun x hx=>eB (Nat.le_max_left _ _) (ha x hx),fun g hg=>?_⟩
   have hg':=h5 g hg
   have hgt:=eB (Nat.le_max_right a b) (hb g hg)
   obtain⟨a1,a2,a3,a4,a5⟩:=g
   rw[TFd.ok_mk] at hg'
   exact⟨hg'.2.2.2.2.1,hg'.2.2.2.2.2,hgt⟩
termination_by t=>SizeOf.sizeOf t
decreasing_by
 all_goals simp_wf
 ·have:=List.sizeOf_lt_of_mem hx;omega
 ·have:=List.sizeOf_lt_of_mem hg
  simp only[TFd.mk.sizeOf_spec] at this
  omega
end Go.Proofs.YtfepkhlgopjaoaaGreatDoor
