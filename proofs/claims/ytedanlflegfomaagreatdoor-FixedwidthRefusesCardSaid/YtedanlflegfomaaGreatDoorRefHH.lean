/- A part of the proof for FixedwidthRefusesCardSaid. -/
import Derived.Test.YtedanlflegfomaaGreatDoorRefGK12
set_option maxRecDepth 100000
set_option linter.unusedVariables false
set_option linter.unusedSimpArgs false
namespace Go.Proofs.YtedanlflegfomaaGreatDoor
open Go Go.Ab
attribute [local irreducible] vc
def named (name:List UInt8)(x:TFd):Bool:=decide (x.name=name)
def bf (name:List UInt8)(x:Fld):Bool:=decide (x.name=name)
def fV:TFd:=.mk 0 [] 0 (.mk 0 0 0 0 [] [] []) []
def lC:Val:=.mk 0 0 0 [] [] []
def tfR (o:Option TFd):PV:=.tup [(o.getD fV).pv,.bool o.isSome]
def vlR (o:Option Val):PV:=.tup [(o.getD lC).pv,.bool o.isSome]
theorem Gw (x:TFd)(name:List UInt8):aq Tryz.prog aA 149 [x.pv,.eptr [.str name] 0 0] (.bool (named name x)):=by
 obtain⟨a,b,c,⟨k,m,n,s,w,e,fs⟩,d⟩:=x
 refine aq.intro El (by simp[Jf]) ?_
 simp(disch:=first|exact dI|fail) only[Jf,TFd.pv_mk,Typ.pv_mk,named,TFd.name,push_cast,seval]
 exact decide_eq_decide.2 Iff.rfl
theorem d7 (t:Typ)(name:List UInt8)(h:t.fields.length≤1000000):aq Tryz.prog aA 104 [t.pv,.str name] (tfR (t.fields.find? (named name))):=by
 obtain⟨k,m,n,s,w,e,f⟩:=t
 simp only[Typ.fields] at h ⊢
 have h94:=Df f 149 [.eptr [.str name] 0 0] (named name) (fun x _=>Gw x name) (by omega)
 refine aq.intro Ey (by simp[H1]) ?_
 rcases dJ (p:=named name) f 0 with ⟨h1,h2⟩ | ⟨i,x,h1,h2,h3⟩
 ·rw[h1]
  rw[h2] at h94
  simp(disch:=first|exact dI|fail) only[H1,Typ.pv_mk,push_cast,seval]
  refine ae.pure h94 rfl ?_
  simp(disch:=first|exact dI|fail) only[tfR,Option.getD_none,Option.isSome_none,fV,TFd.pv_mk,Typ.pv_mk,push_cast,seval]
 ·rw[h2]
  rw[h3,Nat.zero_add] at h94
  obtain⟨x1,x2,x3,⟨y1,y2,y3,y4,y5,y6,y7⟩,x5⟩:=x
  have hi:¬ (i:Int)<0:=by omega
  simp(disch:=first|exact dI|fail) only[H1,Typ.pv_mk,push_cast,seval]
  refine ae.pure h94 rfl ?_
  simp(disch:=first|exact dI|fail) only[h1,tfR,Option.getD_some,Option.isSome_some,TFd.pv_mk,Typ.pv_mk,push_cast,seval]
theorem d8 (t:Typ)(name:List UInt8)(h:t.fields.length≤1000000):aq Tryz.prog aA 34 [t.pv,.str name] (tfR (t.fields.find? (named name))):=by
 obtain⟨k,m,n,s,w,e,f⟩:=t
 simp only[Typ.fields] at h ⊢
 refine aq.intro Ht (by simp[F34]) ?_
 generalize hR:f.find? (named name)=R
 simp(disch:=first|exact dI|fail) only[F34,Typ.pv_mk,push_cast,seval]
 refine az ([]) (fun m:Nat=>[(6,.pv (.int .i64 (m:Int)))]) (fun m=>[]) (fun m=>m≤f.length∧R=(f.drop m).find? (named name)) (fun m=>f.length - m) (0) ?_;intro e0 σ0 n0 h0;simp(disch:=first|exact dI|fail) only[push_cast,seval] at h0;obtain⟨rfl,rfl,rfl⟩:=h0;refine⟨?_,?_,?_⟩
 ·simp(disch:=first|exact dI|fail) only[push_cast,seval]
 ·exact⟨by omega,hR.symm⟩
 ·rintro i ⟨hi,he⟩
  by_cases hlt:i<f.length
  ·have hltI:(i:Int)<f.length:=by omega
   obtain⟨x,hx⟩:∃ x,f[i]? = some x:=⟨_,List.getElem?_eq_getElem hlt⟩
   have hhit:=n8 (p:=named name) hx
   have hmiss:=kN (p:=named name) hx
   obtain⟨x1,x2,x3,⟨y1,y2,y3,y4,y5,y6,y7⟩,x5⟩:=x
   simp only[named,TFd.name] at hhit hmiss
   by_cases hn:x2=name
   ·rw[he]
    rw[hhit (decide_eq_true hn)]
    simp(disch:=first|exact dI|fail) only[hx,hn,tfR,Option.getD_some,Option.isSome_some,TFd.pv_mk,Typ.pv_mk,push_cast,seval]
   ·simp(disch:=first|exact dI|fail) only[hx,hn,TFd.pv_mk,Typ.pv_mk,push_cast,seval]
    exact⟨i+1,bl (by simp(disch:=first|exact dI|fail) only[push_cast,seval]),⟨by omega,by rw[he];exact hmiss (decide_eq_false hn)⟩,by omega⟩
  ·have hltI:¬ (i:Int)<f.length:=by omega
   rw[he,n9 hlt]
   simp(disch:=first|exact dI|fail) only[tfR,Option.getD_none,Option.isSome_none,fV,TFd.pv_mk,Typ.pv_mk,push_cast,seval]
theorem Dx (v:Val)(name:List UInt8)(h:v.fields.length≤1000000):aq Tryz.prog aA 76 [v.pv,.str name] (vlR ((v.fields.find? (bf name)).map Fld.value)):=by
 obtain⟨k,i,s,t,l,f⟩:=v
 simp only[Val.fields] at h ⊢
 refine aq.intro G6 (by simp[F76]) ?_
 generalize hR:f.find? (bf name)=R
 simp(disch:=first|exact dI|fail) only[F76,Val.pv_mk,push_cast,seval]
 refine az ([]) (fun m:Nat=>[(6,.pv (.int .i64 (m:Int)))]) (fun m=>[]) (fun m=>m≤f.length∧R=(f.drop m).find? (bf name)) (fun m=>f.length - m) (0) ?_;intro e0 σ0 n0 h0;simp(disch:=first|exact dI|fail) only[push_cast,seval] at h0;obtain⟨rfl,rfl,rfl⟩:=h0;refine⟨?_,?_,?_⟩
 ·simp(disch:=first|exact dI|fail) only[push_cast,seval]
 ·exact⟨by omega,hR.symm⟩
 ·rintro i ⟨hi,he⟩
  by_cases hlt:i<f.length
  ·have hltI:(i:Int)<f.length:=by omega
   obtain⟨x,hx⟩:∃ x,f[i]? = some x:=⟨_,List.getElem?_eq_getElem hlt⟩
   have hhit:=n8 (p:=bf name) hx
   have hmiss:=kN (p:=bf name) hx
   obtain⟨x1,⟨y1,y2,y3,y4,y5,y6⟩⟩:=x
   simp only[bf,Fld.name] at hhit hmiss
   by_cases hn:x1=name
   ·rw[he]
    rw[hhit (decide_eq_true hn)]
    simp(disch:=first|exact dI|fail) only[hx,hn,vlR,Option.map_some,Fld.value,Option.getD_some,Option.isSome_some,Fld.pv_mk,Val.pv_mk,push_cast,seval]
   ·simp(disch:=first|exact dI|fail) only[hx,hn,Fld.pv_mk,Val.pv_mk,push_cast,seval]
    exact⟨i+1,bl (by simp(disch:=first|exact dI|fail) only[push_cast,seval]),⟨by omega,by rw[he];exact hmiss (decide_eq_false hn)⟩,by omega⟩
  ·have hltI:¬ (i:Int)<f.length:=by omega
   rw[he,n9 hlt]
   simp(disch:=first|exact dI|fail) only[vlR,Option.map_none,Option.getD_none,Option.isSome_none,lC,Val.pv_mk,push_cast,seval]
theorem FY (l:List (List UInt8))(s:List UInt8)(h:l.length≤1000000):aq Tryz.prog aA 31 [.list (l.map PV.str),.str s] (.bool (l.any fun x=>decide (x=s))):=by
 refine aq.intro Hx (by simp[F31]) ?_
 generalize hR:(l.any fun x=>decide (x=s))=R
 simp(disch:=first|exact dI|fail) only[F31,push_cast,seval]
 refine az ([]) (fun m:Nat=>[(5,.pv (.int .i64 (m:Int)))]) (fun m=>[]) (fun m=>m≤l.length∧R=(l.drop m).any fun x=>decide (x=s)) (fun m=>l.length - m) (0) ?_;intro e0 σ0 n0 h0;simp(disch:=first|exact dI|fail) only[push_cast,seval] at h0;obtain⟨rfl,rfl,rfl⟩:=h0;refine⟨?_,?_,?_⟩
 ·simp(disch:=first|exact dI|fail) only[push_cast,seval]
 ·exact⟨by omega,hR.symm⟩
 ·rintro i ⟨hi,he⟩
  by_cases hlt:i<l.length
  ·have hltI:(i:Int)<l.length:=by omega
   obtain⟨x,hx⟩:∃ x,l[i]? = some x:=⟨_,List.getElem?_eq_getElem hlt⟩
   by_cases hn:x=s
   ·rw[he,DX hx (by simp[hn])]
    simp(disch:=first|exact dI|fail) only[hx,hn,push_cast,seval]
   ·rw[AI hx (by simp[hn])] at he
    simp(disch:=first|exact dI|fail) only[hx,hn,push_cast,seval]
    exact⟨i+1,bl (by simp(disch:=first|exact dI|fail) only[push_cast,seval]),⟨by omega,he⟩,by omega⟩
  ·have hltI:¬ (i:Int)<l.length:=by omega
   rw[he,DY hlt]
   simp(disch:=first|exact dI|fail) only[push_cast,seval]
theorem zG (l:List (List UInt8))(s:List UInt8)(h:l.length≤1000000):aq Tryz.prog aA 43 [.list (l.map PV.str),.str s] (.int .i64 (fi (fun x=>decide (x=s)) l 0)):=by
 refine aq.intro Hm (by simp[F43]) ?_
 generalize hR:fi (fun x=>decide (x=s)) l 0=R
 simp(disch:=first|exact dI|fail) only[F43,push_cast,seval]
 refine az ([]) (fun m:Nat=>[(8,.pv (.int .i64 (m:Int)))]) (fun m=>[]) (fun m=>m≤l.length∧R=fi (fun x=>decide (x=s)) (l.drop m) m) (fun m=>l.length - m) (0) ?_;intro e0 σ0 n0 h0;simp(disch:=first|exact dI|fail) only[push_cast,seval] at h0;obtain⟨rfl,rfl,rfl⟩:=h0;refine⟨?_,?_,?_⟩
 ·simp(disch:=first|exact dI|fail) only[push_cast,seval]
 ·exact⟨by omega,hR.symm⟩
 ·rintro i ⟨hi,he⟩
  by_cases hlt:i<l.length
  ·have hltI:(i:Int)<l.length:=by omega
   obtain⟨x,hx⟩:∃ x,l[i]? = some x:=⟨_,List.getElem?_eq_getElem hlt⟩
   by_cases hn:s=x
   ·rw[he,gI hx (by simp[hn])]
    simp(disch:=first|exact dI|fail) only[hx,hn,push_cast,seval]
   ·rw[eF hx (by simp;exact fun h=>hn h.symm)] at he
    simp(disch:=first|exact dI|fail) only[hx,hn,push_cast,seval]
    exact⟨i+1,bl (by simp(disch:=first|exact dI|fail) only[push_cast,seval]),⟨by omega,he⟩,by omega⟩
  ·have hltI:¬ (i:Int)<l.length:=by omega
   rw[he,gJ hlt]
   simp(disch:=first|exact dI|fail) only[push_cast,seval]
theorem iL (l:List (List UInt8))(s:List UInt8)(h:l.length≤1000000):aq Tryz.prog aA 97 [.list (l.map PV.str),.str s] (.bool (l.any fun x=>decide (x=s))):=by
 have h111:=zG l s h
 have hfa:=jq (p:=fun x=>decide (x=s)) l
 refine aq.intro GY (by simp[F97]) ?_
 rcases dJ (p:=fun x=>decide (x=s)) l 0 with ⟨h1,h2⟩ | ⟨k,x,h1,h2,h3⟩
 ·rw[h2] at h111
  rw[h1] at hfa
  rw[← hfa]
  simp(disch:=first|exact dI|fail) only[F97,push_cast,seval]
  refine ae.pure h111 rfl ?_
  simp(disch:=first|exact dI|fail) only[push_cast,seval]
  exact .refl _
 ·rw[h3] at h111
  rw[h2] at hfa
  rw[← hfa]
  have hk:(0:Int)≤((0+k:Nat):Int):=by omega
  generalize ((0+k:Nat):Int)=z at *
  simp(disch:=first|exact dI|fail) only[F97,push_cast,seval]
  refine ae.pure h111 rfl ?_
  simp(disch:=first|exact dI|fail) only[push_cast,seval]
  exact .refl _
theorem Gv (x:Fld)(name:List UInt8):aq Tryz.prog aA 111 [x.pv,.eptr [.str name] 0 0] (.bool (bf name x)):=by
 obtain⟨a,⟨k,m,n,s,w,e⟩⟩:=x
 refine aq.intro Ew (by simp[Jm]) ?_
 simp(disch:=first|exact dI|fail) only[Jm,Fld.pv_mk,Val.pv_mk,bf,Fld.name,push_cast,seval]
 exact decide_eq_decide.2 Iff.rfl
theorem zE (l:List Fld)(g:Nat)(cs:List PV)(q:Fld→Bool)(hq:∀ x∈l,aq Tryz.prog aA g (x.pv::cs) (.bool (q x)))(hl:l.length≤1000000000) :
  aq Tryz.prog aA 110 [.list (l.map Fld.pv),.clo g [] cs] (.int .i64 (fi q l 0)):=by
 refine aq.intro Ex (by simp[Jn]) ?_
 simp(disch:=first|exact dI|fail) only[Jn,push_cast,seval]
 refine az ([]) (fun m:Nat=>[(8,.pv (.int .i64 (m:Int)))]) (fun m=>[]) (fun m=>m≤l.length∧fi q l 0=fi q (l.drop m) m) (fun m=>l.length - m) (0) ?_;intro e0 σ0 n0 h0;simp(disch:=first|exact dI|fail) only[push_cast,seval] at h0;obtain⟨rfl,rfl,rfl⟩:=h0;refine⟨?_,?_,?_⟩
 ·simp(disch:=first|exact dI|fail) only[push_cast,seval]
 ·exact⟨by omega,by simp⟩
 ·rintro m ⟨hm,he⟩
  by_cases hlt:m<l.length
  ·have hltI:(m:Int)<l.length:=by omega
   obtain⟨x,hx⟩:∃ x,l[m]? = some x:=⟨_,List.getElem?_eq_getElem hlt⟩
   have hcall:=hq x (List.mem_of_getElem? hx)
   simp(disch:=first|exact dI|fail) only[hx,Fld.cells_len,Fld.isAgg,push_cast,seval]
   refine ae.pure hcall (by exact nE (x.pv::cs)) ?_
   cases hqx:q x with
   | true=>
     rw[he,gI hx hqx]
     simp(disch:=first|exact dI|fail) only[push_cast,seval]
   | false=>
     rw[eF hx hqx] at he
     simp(disch:=first|exact dI|fail) only[push_cast,seval]
     exact⟨m+1,bl (by simp(disch:=first|exact dI|fail) only[push_cast,seval]),⟨by omega,he⟩,by omega⟩
  ·have hltI:¬ (m:Int)<l.length:=by omega
   rw[he,gJ hlt]
   simp(disch:=first|exact dI|fail) only[push_cast,seval]
theorem zz (v:Val)(name:List UInt8)(h:v.fields.length≤1000000):aq Tryz.prog aA 64 [v.pv,.str name] (.int .i64 (fi (bf name) v.fields 0)):=by
 obtain⟨k,i,s,t,l,f⟩:=v
 simp only[Val.fields] at h ⊢
 have h117:=zE f 111 [.eptr [.str name] 0 0] (bf name) (fun x _=>Gv x name) (by omega)
 refine aq.intro Hg (by simp[F64]) ?_
 simp(disch:=first|exact dI|fail) only[F64,Val.pv_mk,push_cast,seval]
 refine ae.pure h117 rfl ?_
 simp(disch:=first|exact dI|fail) only[push_cast,seval]
theorem ob (v:Val)(name:List UInt8)(hv:v.ok)(hk:v.kind=9)(h:v.fields.length≤1000000):aq Tryz.prog aA 23 [v.pv,.str name] (vlR ((v.fields.find? (bf name)).map Fld.value)):=by
 have h127:=zz v name h
 obtain⟨k,i,s,t,l,f⟩:=v
 rw[Val.ok_mk] at hv
 simp only[Val.fields,Val.kind] at h hk h127 ⊢
 rw[Val.pv_mk] at h127
 refine aq.intro HD (by simp[F23]) ?_
 rcases dJ (p:=bf name) f 0 with ⟨h1,h2⟩ | ⟨i',x,h1,h2,h3⟩
 ·rw[h1]
  rw[h2] at h127
  simp(disch:=first|exact dI|fail) only[F23,Val.pv_mk,push_cast,seval]
  refine ae.pure h127 rfl ?_
  simp(disch:=first|exact dI|fail) only[hk,vlR,Option.map_none,Option.getD_none,Option.isSome_none,lC,Val.pv_mk,push_cast,seval]
 ·rw[h2]
  rw[h3,Nat.zero_add] at h127
  have hxo:=hv.2.2.2.2.2.2.2 x (List.mem_of_getElem? h1)
  obtain⟨x1,x2⟩:=x
  rw[Fld.ok_mk] at hxo
  have hcl:=vH _ x2 (Nat.lt_succ_self _) hxo.2
  obtain⟨y1,y2,y3,y4,y5,y6⟩:=x2
  rw[Val.pv_mk] at hcl
  have hi:¬ (i':Int)<0:=by omega
  simp(disch:=first|exact dI|fail) only[F23,Val.pv_mk,push_cast,seval]
  refine ae.pure h127 rfl ?_
  simp(disch:=first|exact dI|fail) only[h1,hk,Fld.pv_mk,Val.pv_mk,push_cast,seval]
  refine ae.pure hcl rfl ?_
  simp(disch:=first|exact dI|fail) only[vlR,Option.map_some,Fld.value,Option.getD_some,Option.isSome_some,Val.pv_mk,push_cast,seval]
end Go.Proofs.YtedanlflegfomaaGreatDoor
set_option maxRecDepth 100000
set_option linter.unusedVariables false
set_option linter.unusedSimpArgs false
namespace Go.Proofs.YtedanlflegfomaaGreatDoor
open Go Go.Ab
attribute [local irreducible] vc
def stepM:Bool→List Mis→Mis→Bool×List Mis
 | true,l,_=>(true,l)
 | false,l,m=>(!decide (l.length+1<64),l++[m])
end Go.Proofs.YtedanlflegfomaaGreatDoor
