/- A part. -/
import Derived.Test.YtbaaokocnegdoaaGreatDoorEnWV
set_option linter.unusedVariables false
set_option linter.unusedSimpArgs false
set_option maxRecDepth 100000
open Option renaming getD_none->V9,isSome_none->V4,getD_some->VW,isSome_some->V6,map_some->Vl,map_none->WK
open List renaming getElem?_eq_getElem->Vg,mem_of_getElem?->Vk
namespace Go.Proofs.YtbaaokocnegdoaaGreatDoor
open Go Go.Ab
attribute [local irreducible] vc
def named (name:List UInt8)(x:TFd):Bool:=decide (x.name=name)
def aN (name:List UInt8)(x:Fld):Bool:=decide (x.name=name)
def gG:TFd:=.mk 0 [] 0 (.mk 0 0 0 0 [] [] []) []
def aK:Val:=.mk 0 0 0 [] [] []
def tfR (o:Option TFd):PV:=.tup [(o.getD gG).pv,.bool o.isSome]
def vlR (o:Option Val):PV:=.tup [(o.getD aK).pv,.bool o.isSome]
theorem QT (x:TFd)(name:List UInt8):ae Tryz.prog aq 181 [x.pv,.eptr [.str name] 0 0] (.bool (named name x)):=by
 obtain⟨a,b,c,⟨k,m,n,s,w,e,fs⟩,d⟩:=x
 refine ae.intro RL.2 (by simp[RL]) ?_
 simp(disch:=try exact dI) only[RL,U7,Vd,named,TFd.name,push_cast,seval]
 exact decide_eq_decide.2 Iff.rfl
theorem sv (t:Typ)(name:List UInt8)(h:t.fields.length<=1000000):ae Tryz.prog aq 134 [t.pv,.str name] (tfR (t.fields.find? (named name))):=by
 obtain⟨k,m,n,s,w,e,f⟩:=t
 simp only[Typ.fields] at h ⊢
 have h94:=tR f 181 [.eptr [.str name] 0 0] (named name) (fun x _=>QT x name) (by omega)
 refine ae.intro OT.2 (by simp[OT]) ?_
 rcases bZ (p:=named name) f 0 with ⟨h1,h2⟩ | ⟨i,x,h1,h2,h3⟩
 ·rw[h1]
  rw[h2] at h94
  simp(disch:=try exact dI) only[OT,Vd,push_cast,seval]
  refine ab.pure h94 rfl ?_
  simp(disch:=try exact dI) only[tfR,V9,V4,gG,U7,Vd,push_cast,seval]
 ·rw[h2]
  rw[h3,Nat.zero_add] at h94
  obtain⟨x1,x2,x3,⟨y1,y2,y3,y4,y5,y6,y7⟩,x5⟩:=x
  have hi:¬ (i:Int)<0:=by omega
  simp(disch:=try exact dI) only[OT,Vd,push_cast,seval]
  refine ab.pure h94 rfl ?_
  simp(disch:=try exact dI) only[h1,tfR,VW,V6,U7,Vd,push_cast,seval]
theorem sw (t:Typ)(name:List UInt8)(h:t.fields.length<=1000000):ae Tryz.prog aq 65 [t.pv,.str name] (tfR (t.fields.find? (named name))):=by
 obtain⟨k,m,n,s,w,e,f⟩:=t
 simp only[Typ.fields] at h ⊢
 refine ae.intro Q65.2 (by simp[Q65]) ?_
 generalize hR:f.find? (named name)=R
 simp(disch:=try exact dI) only[Q65,Vd,push_cast,seval]
 refine ap ([]) (fun m:Nat=>[(6,.pv (.int .i64 (m:Int)))]) (fun m=>[]) (fun m=>m<=f.length/\R=(f.drop m).find? (named name)) (fun m=>f.length - m) (0) ?_;intro e0 σ0 n0 h0;simp(disch:=try exact dI) only[push_cast,seval] at h0;obtain⟨rfl,rfl,rfl⟩:=h0;refine⟨?_,?_,?_⟩
 ·exact qsZ
 ·exact⟨by omega,hR.symm⟩
 ·rintro i ⟨hi,he⟩
  by_cases hlt:i<f.length
  ·have hltI:(i:Int)<f.length:=by omega
   obtain⟨x,hx⟩:∃ x,f[i]? = some x:=⟨_,Vg hlt⟩
   have hhit:=wm (p:=named name) hx
   have hmiss:=rA (p:=named name) hx
   obtain⟨x1,x2,x3,⟨y1,y2,y3,y4,y5,y6,y7⟩,x5⟩:=x
   simp only[named,TFd.name] at hhit hmiss
   by_cases hn:x2=name
   ·rw[he]
    rw[hhit (decide_eq_true hn)]
    simp(disch:=try exact dI) only[hx,hn,tfR,VW,V6,U7,Vd,push_cast,seval]
   ·simp(disch:=try exact dI) only[hx,hn,U7,Vd,push_cast,seval]
    exact⟨i+1,aI qsZ,⟨by omega,by rw[he];exact hmiss (decide_eq_false hn)⟩,by omega⟩
  ·have hltI:¬ (i:Int)<f.length:=by omega
   rw[he,wn hlt]
   simp(disch:=try exact dI) only[tfR,V9,V4,gG,U7,Vd,push_cast,seval]
theorem Nk (v:Val)(name:List UInt8)(h:v.fields.length<=1000000):ae Tryz.prog aq 117 [v.pv,.str name] (vlR ((v.fields.find? (aN name)).map Fld.value)):=by
 obtain⟨k,i,s,t,l,f⟩:=v
 simp only[Val.fields] at h ⊢
 refine ae.intro Uo.2 (by simp[Uo]) ?_
 generalize hR:f.find? (aN name)=R
 simp(disch:=try exact dI) only[Uo,Vf,push_cast,seval]
 refine ap ([]) (fun m:Nat=>[(6,.pv (.int .i64 (m:Int)))]) (fun m=>[]) (fun m=>m<=f.length/\R=(f.drop m).find? (aN name)) (fun m=>f.length - m) (0) ?_;intro e0 σ0 n0 h0;simp(disch:=try exact dI) only[push_cast,seval] at h0;obtain⟨rfl,rfl,rfl⟩:=h0;refine⟨?_,?_,?_⟩
 ·exact qsZ
 ·exact⟨by omega,hR.symm⟩
 ·rintro i ⟨hi,he⟩
  by_cases hlt:i<f.length
  ·have hltI:(i:Int)<f.length:=by omega
   obtain⟨x,hx⟩:∃ x,f[i]? = some x:=⟨_,Vg hlt⟩
   have hhit:=wm (p:=aN name) hx
   have hmiss:=rA (p:=aN name) hx
   obtain⟨x1,⟨y1,y2,y3,y4,y5,y6⟩⟩:=x
   simp only[aN,Fld.name] at hhit hmiss
   by_cases hn:x1=name
   ·rw[he]
    rw[hhit (decide_eq_true hn)]
    simp(disch:=try exact dI) only[hx,hn,vlR,Vl,Fld.value,VW,V6,U3,Vf,push_cast,seval]
   ·simp(disch:=try exact dI) only[hx,hn,U3,Vf,push_cast,seval]
    exact⟨i+1,aI qsZ,⟨by omega,by rw[he];exact hmiss (decide_eq_false hn)⟩,by omega⟩
  ·have hltI:¬ (i:Int)<f.length:=by omega
   rw[he,wn hlt]
   simp(disch:=try exact dI) only[vlR,WK,V9,V4,aK,Vf,push_cast,seval]
theorem S0 (l:List (List UInt8))(s:List UInt8)(h:l.length<=1000000):ae Tryz.prog aq 62 [.list (l.map PV.str),.str s] (.bool (l.any fun x=>decide (x=s))):=by
 refine ae.intro Q62.2 (by simp[Q62]) ?_
 generalize hR:(l.any fun x=>decide (x=s))=R
 simp(disch:=try exact dI) only[Q62,push_cast,seval]
 refine ap ([]) (fun m:Nat=>[(5,.pv (.int .i64 (m:Int)))]) (fun m=>[]) (fun m=>m<=l.length/\R=(l.drop m).any fun x=>decide (x=s)) (fun m=>l.length - m) (0) ?_;intro e0 σ0 n0 h0;simp(disch:=try exact dI) only[push_cast,seval] at h0;obtain⟨rfl,rfl,rfl⟩:=h0;refine⟨?_,?_,?_⟩
 ·exact qsZ
 ·exact⟨by omega,hR.symm⟩
 ·rintro i ⟨hi,he⟩
  by_cases hlt:i<l.length
  ·have hltI:(i:Int)<l.length:=by omega
   obtain⟨x,hx⟩:∃ x,l[i]? = some x:=⟨_,Vg hlt⟩
   by_cases hn:x=s
   ·rw[he,NT hx (by simp[hn])]
    simp(disch:=try exact dI) only[hx,hn,push_cast,seval]
   ·rw[Jw hx (by simp[hn])] at he
    simp(disch:=try exact dI) only[hx,hn,push_cast,seval]
    exact⟨i+1,aI qsZ,⟨by omega,he⟩,by omega⟩
  ·have hltI:¬ (i:Int)<l.length:=by omega
   rw[he,NU hlt]
   exact qsZ
theorem It (l:List (List UInt8))(s:List UInt8)(h:l.length<=1000000):ae Tryz.prog aq 179 [.list (l.map PV.str),.str s] (.int .i64 (fB (fun x=>decide (x=s)) l 0)):=by
 refine ae.intro Uh.2 (by simp[Uh]) ?_
 generalize hR:fB (fun x=>decide (x=s)) l 0=R
 simp(disch:=try exact dI) only[Uh,push_cast,seval]
 refine ap ([]) (fun m:Nat=>[(8,.pv (.int .i64 (m:Int)))]) (fun m=>[]) (fun m=>m<=l.length/\R=fB (fun x=>decide (x=s)) (l.drop m) m) (fun m=>l.length - m) (0) ?_;intro e0 σ0 n0 h0;simp(disch:=try exact dI) only[push_cast,seval] at h0;obtain⟨rfl,rfl,rfl⟩:=h0;refine⟨?_,?_,?_⟩
 ·exact qsZ
 ·exact⟨by omega,hR.symm⟩
 ·rintro i ⟨hi,he⟩
  by_cases hlt:i<l.length
  ·have hltI:(i:Int)<l.length:=by omega
   obtain⟨x,hx⟩:∃ x,l[i]? = some x:=⟨_,Vg hlt⟩
   by_cases hn:s=x
   ·rw[he,fN hx (by simp[hn])]
    simp(disch:=try exact dI) only[hx,hn,push_cast,seval]
   ·rw[dR hx (by simp;exact fun h=>hn h.symm)] at he
    simp(disch:=try exact dI) only[hx,hn,push_cast,seval]
    exact⟨i+1,aI qsZ,⟨by omega,he⟩,by omega⟩
  ·have hltI:¬ (i:Int)<l.length:=by omega
   rw[he,fO hlt]
   exact qsZ
theorem om (l:List (List UInt8))(s:List UInt8)(h:l.length<=1000000):ae Tryz.prog aq 132 [.list (l.map PV.str),.str s] (.bool (l.any fun x=>decide (x=s))):=by
 have h111:=It l s h
 have hfa:=iR (p:=fun x=>decide (x=s)) l
 refine ae.intro Sc.2 (by simp[Sc]) ?_
 rcases bZ (p:=fun x=>decide (x=s)) l 0 with ⟨h1,h2⟩ | ⟨k,x,h1,h2,h3⟩
 ·rw[h2] at h111
  rw[h1] at hfa
  rw[<- hfa]
  simp(disch:=try exact dI) only[Sc,push_cast,seval]
  refine ab.pure h111 rfl ?_
  refine zgZ ?_
  exact .refl _
 ·rw[h3] at h111
  rw[h2] at hfa
  rw[<- hfa]
  have hk:(0:Int)<=((0+k:Nat):Int):=by omega
  generalize ((0+k:Nat):Int)=z at *
  simp(disch:=try exact dI) only[Sc,push_cast,seval]
  refine ab.pure h111 rfl ?_
  refine zgZ ?_
  exact .refl _
theorem QS (x:Fld)(name:List UInt8):ae Tryz.prog aq 152 [x.pv,.eptr [.str name] 0 0] (.bool (aN name x)):=by
 obtain⟨a,⟨k,m,n,s,w,e⟩⟩:=x
 refine ae.intro RN.2 (by simp[RN]) ?_
 simp(disch:=try exact dI) only[RN,U3,Vf,aN,Fld.name,push_cast,seval]
 exact decide_eq_decide.2 Iff.rfl
theorem Is (l:List Fld)(g:Nat)(cs:List PV)(q:Fld->Bool)(hq:∀ x∈l,ae Tryz.prog aq g (x.pv::cs) (.bool (q x)))(hl:l.length<=1000000000) :
  ae Tryz.prog aq 151 [.list (l.map Fld.pv),.clo g [] cs] (.int .i64 (fB q l 0)):=by
 refine ae.intro KQ.2 (by simp[KQ]) ?_
 simp(disch:=try exact dI) only[KQ,push_cast,seval]
 refine ap ([]) (fun m:Nat=>[(8,.pv (.int .i64 (m:Int)))]) (fun m=>[]) (fun m=>m<=l.length/\fB q l 0=fB q (l.drop m) m) (fun m=>l.length - m) (0) ?_;intro e0 σ0 n0 h0;simp(disch:=try exact dI) only[push_cast,seval] at h0;obtain⟨rfl,rfl,rfl⟩:=h0;refine⟨?_,?_,?_⟩
 ·exact qsZ
 ·exact⟨by omega,by simp⟩
 ·rintro m ⟨hm,he⟩
  by_cases hlt:m<l.length
  ·have hltI:(m:Int)<l.length:=by omega
   obtain⟨x,hx⟩:∃ x,l[m]? = some x:=⟨_,Vg hlt⟩
   have hcall:=hq x (Vk hx)
   simp(disch:=try exact dI) only[hx,Fld.cells_len,Fld.isAgg,push_cast,seval]
   refine ab.pure hcall (by exact qD (x.pv::cs)) ?_
   cases hqx:q x with
   | true=>
     rw[he,fN hx hqx]
     exact qsZ
   | false=>
     rw[dR hx hqx] at he
     refine zgZ ?_
     exact⟨m+1,aI qsZ,⟨by omega,he⟩,by omega⟩
  ·have hltI:¬ (m:Int)<l.length:=by omega
   rw[he,fO hlt]
   exact qsZ
theorem Ir (v:Val)(name:List UInt8)(h:v.fields.length<=1000000):ae Tryz.prog aq 100 [v.pv,.str name] (.int .i64 (fB (aN name) v.fields 0)):=by
 obtain⟨k,i,s,t,l,f⟩:=v
 simp only[Val.fields] at h ⊢
 have h117:=Is f 152 [.eptr [.str name] 0 0] (aN name) (fun x _=>QS x name) (by omega)
 refine ae.intro RS.2 (by simp[RS]) ?_
 simp(disch:=try exact dI) only[RS,Vf,push_cast,seval]
 refine ab.pure h117 rfl ?_
 exact qsZ
theorem pn (v:Val)(name:List UInt8)(hv:v.ok)(hk:v.kind=9)(h:v.fields.length<=1000000):ae Tryz.prog aq 52 [v.pv,.str name] (vlR ((v.fields.find? (aN name)).map Fld.value)):=by
 have h127:=Ir v name h
 obtain⟨k,i,s,t,l,f⟩:=v
 rw[Ve] at hv
 simp only[Val.fields,Val.kind] at h hk h127 ⊢
 rw[Vf] at h127
 refine ae.intro Q52.2 (by simp[Q52]) ?_
 rcases bZ (p:=aN name) f 0 with ⟨h1,h2⟩ | ⟨i',x,h1,h2,h3⟩
 ·rw[h1]
  rw[h2] at h127
  simp(disch:=try exact dI) only[Q52,Vf,push_cast,seval]
  refine ab.pure h127 rfl ?_
  simp(disch:=try exact dI) only[hk,vlR,WK,V9,V4,aK,Vf,push_cast,seval]
 ·rw[h2]
  rw[h3,Nat.zero_add] at h127
  have hxo:=hv.2.2.2.2.2.2.2 x (Vk h1)
  obtain⟨x1,x2⟩:=x
  rw[U2] at hxo
  have hcl:=iY _ x2 (Nat.lt_succ_self _) hxo.2
  obtain⟨y1,y2,y3,y4,y5,y6⟩:=x2
  rw[Vf] at hcl
  have hi:¬ (i':Int)<0:=by omega
  simp(disch:=try exact dI) only[Q52,Vf,push_cast,seval]
  refine ab.pure h127 rfl ?_
  simp(disch:=try exact dI) only[h1,hk,U3,Vf,push_cast,seval]
  refine ab.pure hcl rfl ?_
  simp(disch:=try exact dI) only[vlR,Vl,Fld.value,VW,V6,Vf,push_cast,seval]
def stepM:Bool->List Mis->Mis->Bool×List Mis
 | true,l,_=>(true,l)
 | false,l,m=>(!decide (l.length+1<64),l++[m])
