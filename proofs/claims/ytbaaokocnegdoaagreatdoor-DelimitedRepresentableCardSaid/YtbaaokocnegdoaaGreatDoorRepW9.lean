/- A part of the proof for DelimitedRepresentableCardSaid. -/
import Derived.Test.YtbaaokocnegdoaaGreatDoorRepWTy
import Derived.Test.YtbaaokocnegdoaaGreatDoorCore5
import Derived.Test.YtbaaokocnegdoaaGreatDoorRepVS6
import Derived.Test.YtbaaokocnegdoaaGreatDoorRepF
set_option maxRecDepth 100000
set_option linter.unusedVariables false
set_option linter.unusedSimpArgs false
namespace Go.Proofs.YtbaaokocnegdoaaGreatDoor
open Go Go.Ab
attribute [local irreducible] vc
theorem yj (l:List TFd)(g:Nat)(cs:List PV)(q:TFd→Bool)(hq:∀ x∈l,ak Tryz.prog aD g (x.pv::cs) (.bool (q x)))(hl:l.length≤1000000000) :
  ak Tryz.prog aD 147 [.list (l.map TFd.pv),.clo g [] cs] (.int .i64 (eR q l 0)):=by
 refine ak.intro pw (by simp[JB]) ?_
 simp(disch:=first|exact dI|fail) only[JB,push_cast,seval]
 refine aB ([]) (fun m:Nat=>[(8,.pv (.int .i64 (m:Int)))]) (fun m=>[]) (fun m=>m≤l.length∧eR q l 0=eR q (l.drop m) m) (fun m=>l.length - m) (0) ?_;intro e0 σ0 n0 h0;simp(disch:=first|exact dI|fail) only[push_cast,seval] at h0;obtain⟨rfl,rfl,rfl⟩:=h0;refine⟨?_,?_,?_⟩
 ·simp(disch:=first|exact dI|fail) only[push_cast,seval]
 ·exact⟨by omega,by simp⟩
 ·rintro m ⟨hm,he⟩
  by_cases hlt:m<l.length
  ·have hltI:(m:Int)<l.length:=by omega
   obtain⟨x,hx⟩:∃ x,l[m]? = some x:=⟨_,List.getElem?_eq_getElem hlt⟩
   have hcall:=hq x (List.mem_of_getElem? hx)
   simp(disch:=first|exact dI|fail) only[hx,TFd.cells_len,TFd.isAgg,push_cast,seval]
   refine ab.pure hcall (by exact pN (x.pv::cs)) ?_
   cases hqx:q x with
   | true=>
     rw[he,fa hx hqx]
     simp(disch:=first|exact dI|fail) only[push_cast,seval]
   | false=>
     rw[dO hx hqx] at he
     simp(disch:=first|exact dI|fail) only[push_cast,seval]
     exact⟨m+1,bg (by simp(disch:=first|exact dI|fail) only[push_cast,seval]),⟨by omega,he⟩,by omega⟩
  ·have hltI:¬ (m:Int)<l.length:=by omega
   rw[he,fb hlt]
   simp(disch:=first|exact dI|fail) only[push_cast,seval]
theorem j4 (l:List TFd)(g:Nat)(cs:List PV)(q:TFd→Bool)(hq:∀ x∈l,ak Tryz.prog aD g (x.pv::cs) (.bool (q x)))(hl:l.length≤1000000000) :
  ak Tryz.prog aD 96 [.list (l.map TFd.pv),.clo g [] cs] (.bool (l.any q)):=by
 have h94:=yj l g cs q hq hl
 have hfa:=hH (p:=q) l
 refine ak.intro Ak (by simp[F96]) ?_
 rcases ci (p:=q) l 0 with ⟨h1,h2⟩ | ⟨k,x,h1,h2,h3⟩
 ·rw[h2] at h94
  rw[h1] at hfa
  rw[← hfa]
  simp(disch:=first|exact dI|fail) only[F96,push_cast,seval]
  refine ab.pure h94 rfl ?_
  simp(disch:=first|exact dI|fail) only[push_cast,seval]
  exact .refl _
 ·rw[h3] at h94
  rw[h2] at hfa
  rw[← hfa]
  have hk:(0:Int)≤((0+k:Nat):Int):=by omega
  generalize ((0+k:Nat):Int)=z at *
  simp(disch:=first|exact dI|fail) only[F96,push_cast,seval]
  refine ab.pure h94 rfl ?_
  simp(disch:=first|exact dI|fail) only[push_cast,seval]
  exact .refl _
def mL (f:TFd):Bool:=decide (f.typ.kind<1)||decide (7<f.typ.kind)
theorem KW (f:TFd):ak Tryz.prog aD 97 [f.pv] (.bool (mL f)):=by
 obtain⟨a,b,c,⟨k,m,n,s,w,e,fs⟩,d⟩:=f
 refine ak.intro Fr (by simp[F97]) ?_
 simp only[mL,TFd.typ,Typ.kind]
 by_cases h1:k<1
 ·simp(disch:=first|exact dI|fail) only[F97,TFd.pv_mk,Typ.pv_mk,push_cast,seval]
  simp[h1]
 ·by_cases h2:7<k
  ·simp(disch:=first|exact dI|fail) only[F97,TFd.pv_mk,Typ.pv_mk,push_cast,seval]
   simp[h1,h2]
  ·simp(disch:=first|exact dI|fail) only[F97,TFd.pv_mk,Typ.pv_mk,push_cast,seval]
   simp[h1,h2]
def tf:Typ→Bool
 | .mk k _ _ _ _ _ f=>decide (k=9)&&(decide (0<f.length)&&!(f.any mL))
theorem KK (t:Typ)(h:t.fields.length≤1000000):ak Tryz.prog aD 49 [t.pv] (.bool (tf t)):=by
 obtain⟨k,m,n,s,w,e,f⟩:=t
 simp only[Typ.fields] at h
 have h64:=j4 f 97 [] mL (fun x _=>KW x) (by omega)
 refine ak.intro Fv (by simp[F49]) ?_
 simp only[tf]
 by_cases h1:k=9
 ·by_cases h2:0<f.length
  ·have h2I:(0:Int)<f.length:=by omega
   simp(disch:=first|exact dI|fail) only[F49,Typ.pv_mk,h1,push_cast,seval]
   refine ab.pure h64 rfl ?_
   simp(disch:=first|exact dI|fail) only[push_cast,seval]
  ·have h2I:¬ (0:Int)<f.length:=by omega
   simp(disch:=first|exact dI|fail) only[F49,Typ.pv_mk,h1,push_cast,seval]
 ·simp(disch:=first|exact dI|fail) only[F49,Typ.pv_mk,h1,push_cast,seval]
theorem rB (n:Nat)(t:Typ):(bf n t).fields.length≤6:=by
 obtain⟨k,a,b,c,w,e,f⟩:=t
 cases n with
 | zero=>simp[bf,dK,Typ.fields]
 | succ n=>simp only[bf,dK,Typ.fields];split<;>simp<;>omega
end Go.Proofs.YtbaaokocnegdoaaGreatDoor
set_option maxRecDepth 100000
set_option linter.unusedVariables false
set_option linter.unusedSimpArgs false
namespace Go.Proofs.YtbaaokocnegdoaaGreatDoor
open Go Go.Ab
attribute [local irreducible] vc
def named (name:List UInt8)(x:TFd):Bool:=decide (x.name=name)
def cI (name:List UInt8)(x:Fld):Bool:=decide (x.name=name)
def jE:TFd:=.mk 0 [] 0 (.mk 0 0 0 0 [] [] []) []
def FD:Val:=.mk 0 0 0 [] [] []
def tfR (o:Option TFd):PV:=.tup [(o.getD jE).pv,.bool o.isSome]
def vlR (o:Option Val):PV:=.tup [(o.getD FD).pv,.bool o.isSome]
theorem Du (l:List (List UInt8))(s:List UInt8)(h:l.length≤1000000):ak Tryz.prog aD 179 [.list (l.map PV.str),.str s] (.int .i64 (eR (fun x=>decide (x=s)) l 0)):=by
 refine ak.intro Jc (by simp[NV]) ?_
 generalize hR:eR (fun x=>decide (x=s)) l 0=R
 simp(disch:=first|exact dI|fail) only[NV,push_cast,seval]
 refine aB ([]) (fun m:Nat=>[(8,.pv (.int .i64 (m:Int)))]) (fun m=>[]) (fun m=>m≤l.length∧R=eR (fun x=>decide (x=s)) (l.drop m) m) (fun m=>l.length - m) (0) ?_;intro e0 σ0 n0 h0;simp(disch:=first|exact dI|fail) only[push_cast,seval] at h0;obtain⟨rfl,rfl,rfl⟩:=h0;refine⟨?_,?_,?_⟩
 ·simp(disch:=first|exact dI|fail) only[push_cast,seval]
 ·exact⟨by omega,hR.symm⟩
 ·rintro i ⟨hi,he⟩
  by_cases hlt:i<l.length
  ·have hltI:(i:Int)<l.length:=by omega
   obtain⟨x,hx⟩:∃ x,l[i]? = some x:=⟨_,List.getElem?_eq_getElem hlt⟩
   by_cases hn:s=x
   ·rw[he,fa hx (by simp[hn])]
    simp(disch:=first|exact dI|fail) only[hx,hn,push_cast,seval]
   ·rw[dO hx (by simp;exact fun h=>hn h.symm)] at he
    simp(disch:=first|exact dI|fail) only[hx,hn,push_cast,seval]
    exact⟨i+1,bg (by simp(disch:=first|exact dI|fail) only[push_cast,seval]),⟨by omega,he⟩,by omega⟩
  ·have hltI:¬ (i:Int)<l.length:=by omega
   rw[he,fb hlt]
   simp(disch:=first|exact dI|fail) only[push_cast,seval]
theorem tC (l:List (List UInt8))(s:List UInt8)(h:l.length≤1000000):ak Tryz.prog aD 132 [.list (l.map PV.str),.str s] (.bool (l.any fun x=>decide (x=s))):=by
 have h111:=Du l s h
 have hfa:=hH (p:=fun x=>decide (x=s)) l
 refine ak.intro Jf (by simp[MA]) ?_
 rcases ci (p:=fun x=>decide (x=s)) l 0 with ⟨h1,h2⟩ | ⟨k,x,h1,h2,h3⟩
 ·rw[h2] at h111
  rw[h1] at hfa
  rw[← hfa]
  simp(disch:=first|exact dI|fail) only[MA,push_cast,seval]
  refine ab.pure h111 rfl ?_
  simp(disch:=first|exact dI|fail) only[push_cast,seval]
  exact .refl _
 ·rw[h3] at h111
  rw[h2] at hfa
  rw[← hfa]
  have hk:(0:Int)≤((0+k:Nat):Int):=by omega
  generalize ((0+k:Nat):Int)=z at *
  simp(disch:=first|exact dI|fail) only[MA,push_cast,seval]
  refine ab.pure h111 rfl ?_
  simp(disch:=first|exact dI|fail) only[push_cast,seval]
  exact .refl _
theorem K8 (x:Fld)(name:List UInt8):ak Tryz.prog aD 152 [x.pv,.eptr [.str name] 0 0] (.bool (cI name x)):=by
 obtain⟨a,⟨k,m,n,s,w,e⟩⟩:=x
 refine ak.intro Ar (by simp[My]) ?_
 simp(disch:=first|exact dI|fail) only[My,Fld.pv_mk,Val.pv_mk,cI,Fld.name,push_cast,seval]
 exact decide_eq_decide.2 Iff.rfl
theorem Dt (l:List Fld)(g:Nat)(cs:List PV)(q:Fld→Bool)(hq:∀ x∈l,ak Tryz.prog aD g (x.pv::cs) (.bool (q x)))(hl:l.length≤1000000000) :
  ak Tryz.prog aD 151 [.list (l.map Fld.pv),.clo g [] cs] (.int .i64 (eR q l 0)):=by
 refine ak.intro As (by simp[Mz]) ?_
 simp(disch:=first|exact dI|fail) only[Mz,push_cast,seval]
 refine aB ([]) (fun m:Nat=>[(8,.pv (.int .i64 (m:Int)))]) (fun m=>[]) (fun m=>m≤l.length∧eR q l 0=eR q (l.drop m) m) (fun m=>l.length - m) (0) ?_;intro e0 σ0 n0 h0;simp(disch:=first|exact dI|fail) only[push_cast,seval] at h0;obtain⟨rfl,rfl,rfl⟩:=h0;refine⟨?_,?_,?_⟩
 ·simp(disch:=first|exact dI|fail) only[push_cast,seval]
 ·exact⟨by omega,by simp⟩
 ·rintro m ⟨hm,he⟩
  by_cases hlt:m<l.length
  ·have hltI:(m:Int)<l.length:=by omega
   obtain⟨x,hx⟩:∃ x,l[m]? = some x:=⟨_,List.getElem?_eq_getElem hlt⟩
   have hcall:=hq x (List.mem_of_getElem? hx)
   simp(disch:=first|exact dI|fail) only[hx,Fld.cells_len,Fld.isAgg,push_cast,seval]
   refine ab.pure hcall (by exact pN (x.pv::cs)) ?_
   cases hqx:q x with
   | true=>
     rw[he,fa hx hqx]
     simp(disch:=first|exact dI|fail) only[push_cast,seval]
   | false=>
     rw[dO hx hqx] at he
     simp(disch:=first|exact dI|fail) only[push_cast,seval]
     exact⟨m+1,bg (by simp(disch:=first|exact dI|fail) only[push_cast,seval]),⟨by omega,he⟩,by omega⟩
  ·have hltI:¬ (m:Int)<l.length:=by omega
   rw[he,fb hlt]
   simp(disch:=first|exact dI|fail) only[push_cast,seval]
theorem Dq (v:Val)(name:List UInt8)(h:v.fields.length≤1000000):ak Tryz.prog aD 100 [v.pv,.str name] (.int .i64 (eR (cI name) v.fields 0)):=by
 obtain⟨k,i,s,t,l,f⟩:=v
 simp only[Val.fields] at h ⊢
 have h117:=Dt f 152 [.eptr [.str name] 0 0] (cI name) (fun x _=>K8 x name) (by omega)
 refine ak.intro Ay (by simp[MC]) ?_
 simp(disch:=first|exact dI|fail) only[MC,Val.pv_mk,push_cast,seval]
 refine ab.pure h117 rfl ?_
 simp(disch:=first|exact dI|fail) only[push_cast,seval]
theorem DS (v:Val)(name:List UInt8)(hv:v.ok)(hk:v.kind=9)(h:v.fields.length≤1000000):ak Tryz.prog aD 52 [v.pv,.str name] (vlR ((v.fields.find? (cI name)).map Fld.value)):=by
 have h127:=Dq v name h
 obtain⟨k,i,s,t,l,f⟩:=v
 rw[Val.ok_mk] at hv
 simp only[Val.fields,Val.kind] at h hk h127 ⊢
 rw[Val.pv_mk] at h127
 refine ak.intro Fu (by simp[F52]) ?_
 rcases ci (p:=cI name) f 0 with ⟨h1,h2⟩ | ⟨i',x,h1,h2,h3⟩
 ·rw[h1]
  rw[h2] at h127
  simp(disch:=first|exact dI|fail) only[F52,Val.pv_mk,push_cast,seval]
  refine ab.pure h127 rfl ?_
  simp(disch:=first|exact dI|fail) only[hk,vlR,Option.map_none,Option.getD_none,Option.isSome_none,FD,Val.pv_mk,push_cast,seval]
 ·rw[h2]
  rw[h3,Nat.zero_add] at h127
  have hxo:=hv.2.2.2.2.2.2.2 x (List.mem_of_getElem? h1)
  obtain⟨x1,x2⟩:=x
  rw[Fld.ok_mk] at hxo
  have hcl:=mN _ x2 (Nat.lt_succ_self _) hxo.2
  obtain⟨y1,y2,y3,y4,y5,y6⟩:=x2
  rw[Val.pv_mk] at hcl
  have hi:¬ (i':Int)<0:=by omega
  simp(disch:=first|exact dI|fail) only[F52,Val.pv_mk,push_cast,seval]
  refine ab.pure h127 rfl ?_
  simp(disch:=first|exact dI|fail) only[h1,hk,Fld.pv_mk,Val.pv_mk,push_cast,seval]
  refine ab.pure hcl rfl ?_
  simp(disch:=first|exact dI|fail) only[vlR,Option.map_some,Fld.value,Option.getD_some,Option.isSome_some,Val.pv_mk,push_cast,seval]
end Go.Proofs.YtbaaokocnegdoaaGreatDoor
set_option maxRecDepth 100000
set_option linter.unusedVariables false
set_option linter.unusedSimpArgs false
-- many steps
namespace Go.Proofs.YtbaaokocnegdoaaGreatDoor
open Go Go.Ab
attribute [local irreducible] vc
theorem D3 (w:List (List UInt8))(hw:w.length≤1000000000):ak Tryz.prog aD 297 [.list (w.map PV.str)] (.list (w.map PV.str)):=by
 refine ak.intro Ip (by simp[Mt]) ?_
 cases w with
 | nil=>
   simp(maxSteps:=9^7) (disch:=first|exact dI|fail) only[Mt,push_cast,seval]
   intro b
   cases b<;>simp(maxSteps:=9^7) (disch:=first|exact dI|fail) only[push_cast,seval]
 | cons x r=>
   rw[List.length_cons] at hw
   simp(maxSteps:=9^7) (disch:=first|exact dI|fail) only[Mt,push_cast,seval]
set_option maxHeartbeats 4000000 in
theorem qz (n:Int)(nm:List UInt8)(nd k m M s:Int)(w:List (List UInt8))(e:List Typ)(f:List TFd)(d:List Val)(hT:ak Tryz.prog aD 296 [(Typ.mk k m M s w e f).pv] (Typ.mk k m M s w e f).pv)(hd:d.length≤1000000000)(hv:∀ v∈d,v.ok) :
  ak Tryz.prog aD 295 [(TFd.mk n nm nd (Typ.mk k m M s w e f) d).pv] (TFd.mk n nm nd (Typ.mk k m M s w e f) d).pv:=by
 simp only[Typ.pv_mk] at hT
 refine ak.intro Ir (by simp[NA]) ?_
 simp(maxSteps:=9^7) (disch:=first|exact dI|fail) only[NA,TFd.pv_mk,Typ.pv_mk,ae,push_cast,seval]
 refine ab.pure hT rfl ?_
 simp(maxSteps:=9^7) (disch:=first|exact dI|fail) only[push_cast,seval]
 refine aB ([]) (fun i:Nat=>[(17,.pv (.int .i64 (i:Int))),(3,.olist 2 6 ((d.take i).map Val.pv))]) (fun _=>[]) (fun i=>i≤d.length) (fun i=>d.length - i) (0) ?_;intro e0 σ0 n0 h0;simp(maxSteps:=9^7) (disch:=first|exact dI|fail) only[push_cast,seval] at h0;obtain⟨rfl,rfl,rfl⟩:=h0;refine⟨?_,?_,?_⟩
 ·simp(maxSteps:=9^7) (disch:=first|exact dI|fail) only[push_cast,seval]
 ·omega
 intro i hi
 by_cases hlt:i<d.length
 ·have hltI:(i:Int)<(d.length:Int):=by omega
  obtain⟨x,hx⟩:∃ x,d[i]? = some x:=⟨_,List.getElem?_eq_getElem hlt⟩
  have hc:=mN _ x (Nat.lt_succ_self _) (hv x (List.mem_of_getElem? hx))
  have hts:=aH hx
  have hlt2:(d.take i).length=i:=by rw[List.length_take];omega
  obtain⟨vk,vn,vs,vt,vl,vf⟩:=x
  simp only[Val.pv_mk] at hc
  simp(maxSteps:=9^7) (disch:=first|exact dI|fail) only[hx,Option.map_some,Val.pv_mk,push_cast,seval]
  refine ab.pure hc rfl ?_
  simp(maxSteps:=9^7) (disch:=first|exact dI|fail) only[hlt2,push_cast,seval]
  exact⟨i+1,bg (by simp(maxSteps:=9^7) (disch:=first|exact dI|fail) only[hts,List.map_append,Val.pv_mk,push_cast,seval]),by omega,by omega⟩
 ·obtain rfl:i=d.length:=by omega
  simp(maxSteps:=9^7) (disch:=first|exact dI|fail) only[List.take_length,Int.lt_irrefl,push_cast,seval]
def cj:Nat→Typ→Prop
 | 0,_=>False
 | n+1,.mk k m M s w e f=>w.length≤1000000000∧e.length≤1000000000∧f.length≤1000000000∧(∀ x∈e,cj n x)∧∀ g∈f,g.dflt.length≤1000000000∧(∀ v∈g.dflt,v.ok)∧cj n g.typ
set_option maxHeartbeats 4000000 in
theorem qy:∀ (n:Nat) (t:Typ),cj n t→ak Tryz.prog aD 296 [t.pv] t.pv
 | 0,_,h=>h.elim
 | n+1,.mk k m M s w e f,h=>by
   have ih:=qy n
   simp only[cj] at h
   obtain⟨hw,hel,hfl,he,hf⟩:=h
   have h297:=D3 w hw
   refine ak.intro Iq (by simp[Ny]) ?_
   simp(maxSteps:=9^7) (disch:=first|exact dI|fail) only[Ny,Typ.pv_mk,push_cast,seval]
   refine aB ([]) (fun i:Nat=>[(16,.pv (.int .i64 (i:Int))),(3,.olist 2 7 ((e.take i).map Typ.pv))]) (fun _=>[]) (fun i=>i≤e.length) (fun i=>e.length - i) (0) ?_;intro e0 σ0 n0 h0;simp(maxSteps:=9^7) (disch:=first|exact dI|fail) only[push_cast,seval] at h0;obtain⟨rfl,rfl,rfl⟩:=h0;refine⟨?_,?_,?_⟩
   ·simp(maxSteps:=9^7) (disch:=first|exact dI|fail) only[push_cast,seval]
   ·omega
   intro i hi
   by_cases hlt:i<e.length
   ·have hltI:(i:Int)<(e.length:Int):=by omega
    obtain⟨x,hx⟩:∃ x,e[i]? = some x:=⟨_,List.getElem?_eq_getElem hlt⟩
    have hc:=ih x (he x (List.mem_of_getElem? hx))
    have hts:=aH hx
    have hlt2:(e.take i).length=i:=by rw[List.length_take];omega
    obtain⟨k',m',M',s',w',e',f'⟩:=x
    simp only[Typ.pv_mk] at hc
    simp(maxSteps:=9^7) (disch:=first|exact dI|fail) only[hx,Option.map_some,Typ.pv_mk,ae,push_cast,seval]
    refine ab.pure hc rfl ?_
    simp(maxSteps:=9^7) (disch:=first|exact dI|fail) only[hlt2,push_cast,seval]
    exact⟨i+1,bg (by simp(maxSteps:=9^7) (disch:=first|exact dI|fail) only[hts,List.map_append,Typ.pv_mk,push_cast,seval]),by omega,by omega⟩
   obtain rfl:i=e.length:=by omega
   clear hi hlt
   simp(maxSteps:=9^7) (disch:=first|exact dI|fail) only[List.take_length,Int.lt_irrefl,push_cast,seval]
   refine aB ([]) (fun i:Nat=>[(33,.pv (.int .i64 (i:Int))),(6,.olist 3 11 ((f.take i).map TFd.pv))]) (fun _=>[]) (fun i=>i≤f.length) (fun i=>f.length - i) (0) ?_;intro e0 σ0 n0 h0;simp(maxSteps:=9^7) (disch:=first|exact dI|fail) only[push_cast,seval] at h0;obtain⟨rfl,rfl,rfl⟩:=h0;refine⟨?_,?_,?_⟩
   ·simp(maxSteps:=9^7) (disch:=first|exact dI|fail) only[push_cast,seval]
   ·omega
   intro i hi
   by_cases hlt:i<f.length
   ·have hltI:(i:Int)<(f.length:Int):=by omega
    obtain⟨x,hx⟩:∃ x,f[i]? = some x:=⟨_,List.getElem?_eq_getElem hlt⟩
    obtain⟨hdl,hdv,hds⟩:=hf x (List.mem_of_getElem? hx)
    have hts:=aH hx
    have hlt2:(f.take i).length=i:=by rw[List.length_take];omega
    obtain⟨n',nm',nd',⟨k',m',M',s',w',e',f'⟩,d'⟩:=x
    have hc:=qz n' nm' nd' k' m' M' s' w' e' f' d' (ih _ hds) hdl hdv
    simp only[TFd.pv_mk,Typ.pv_mk,ae] at hc
    simp(maxSteps:=9^7) (disch:=first|exact dI|fail) only[hx,Option.map_some,TFd.pv_mk,Typ.pv_mk,ae,push_cast,seval]
    refine ab.pure hc rfl ?_
    simp(maxSteps:=9^7) (disch:=first|exact dI|fail) only[hlt2,push_cast,seval]
    exact⟨i+1,bg (by simp(maxSteps:=9^7) (disch:=first|exact dI|fail) only[hts,List.map_append,TFd.pv_mk,Typ.pv_mk,ae,push_cast,seval]),by omega,by omega⟩
   obtain rfl:i=f.length:=by omega
   clear hi hlt
   simp(maxSteps:=9^7) (disch:=first|exact dI|fail) only[List.take_length,Int.lt_irrefl,push_cast,seval]
   refine ab.pure h297 rfl ?_
   simp(maxSteps:=9^7) (disch:=first|exact dI|fail) only[push_cast,seval]
end Go.Proofs.YtbaaokocnegdoaaGreatDoor
