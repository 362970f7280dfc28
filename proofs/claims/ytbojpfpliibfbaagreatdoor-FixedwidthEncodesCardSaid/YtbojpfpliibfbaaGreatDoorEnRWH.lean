/- A part of the proof. -/
import Derived.Test.YtbojpfpliibfbaaGreatDoorEnRS6
set_option maxHeartbeats 16000000
set_option maxRecDepth 100000
set_option linter.unusedVariables false
set_option linter.unusedSimpArgs false
namespace Go.Proofs.YtbojpfpliibfbaaGreatDoor
open Go Go.Ab
attribute [local irreducible] vc
def named (name:List UInt8)(x:TFd):Bool:=decide (x.name=name)
def bc (name:List UInt8)(x:Fld):Bool:=decide (x.name=name)
def fW:TFd:=.mk 0 [] 0 (.mk 0 0 0 0 [] [] []) []
def nr:Val:=.mk 0 0 0 [] [] []
def tfR (o:Option TFd):PV:=.tup [(o.getD fW).pv,.bool o.isSome]
def vlR (o:Option Val):PV:=.tup [(o.getD nr).pv,.bool o.isSome]
theorem Mm (x:TFd)(name:List UInt8):am Tryz.prog az 196 [x.pv,.eptr [.str name] 0 0] (.bool (named name x)):=by
 obtain⟨a,b,c,⟨k,m,n,s,w,e,fs⟩,d⟩:=x
 refine am.intro Pr.2 (by simp[Pr]) ?_
 simp(disch:=try exact dI) only[Pr,TFd.pv_mk,Typ.pv_mk,named,TFd.name,push_cast,seval]
 exact decide_eq_decide.2 Iff.rfl
theorem py (t:Typ)(name:List UInt8)(h:t.fields.length<=9000000000000):am Tryz.prog az 139 [t.pv,.str name] (tfR (t.fields.find? (named name))):=by
 obtain⟨k,m,n,s,w,e,f⟩:=t
 simp only[Typ.fields] at h ⊢
 have h94:=qy f 196 [.eptr [.str name] 0 0] (named name) (fun x _=>Mm x name) (by omega)
 refine am.intro NB.2 (by simp[NB]) ?_
 rcases bx (p:=named name) f 0 with ⟨h1,h2⟩ | ⟨i,x,h1,h2,h3⟩
 ·rw[h1]
  rw[h2] at h94
  simp(disch:=try exact dI) only[NB,Typ.pv_mk,push_cast,seval]
  refine ab.pure h94 rfl ?_
  simp(disch:=try exact dI) only[tfR,Option.getD_none,Option.isSome_none,fW,TFd.pv_mk,Typ.pv_mk,push_cast,seval]
 ·rw[h2]
  rw[h3,Nat.zero_add] at h94
  obtain⟨x1,x2,x3,⟨y1,y2,y3,y4,y5,y6,y7⟩,x5⟩:=x
  have hi:¬ (i:Int)<0:=by omega
  simp(disch:=try exact dI) only[NB,Typ.pv_mk,push_cast,seval]
  refine ab.pure h94 rfl ?_
  simp(disch:=try exact dI) only[h1,tfR,Option.getD_some,Option.isSome_some,TFd.pv_mk,Typ.pv_mk,push_cast,seval]
theorem pA (t:Typ)(name:List UInt8)(h:t.fields.length<=9000000000000):am Tryz.prog az 65 [t.pv,.str name] (tfR (t.fields.find? (named name))):=by
 obtain⟨k,m,n,s,w,e,f⟩:=t
 simp only[Typ.fields] at h ⊢
 refine am.intro Q65.2 (by simp[Q65]) ?_
 generalize hR:f.find? (named name)=R
 simp(disch:=try exact dI) only[Q65,Typ.pv_mk,push_cast,seval]
 refine au ([]) (fun m:Nat=>[(6,.pv (.int .i64 (m:Int)))]) (fun m=>[]) (fun m=>m<=f.length/\R=(f.drop m).find? (named name)) (fun m=>f.length - m) (0) ?_;intro e0 σ0 n0 h0;simp(disch:=try exact dI) only[push_cast,seval] at h0;obtain⟨rfl,rfl,rfl⟩:=h0;refine⟨?_,?_,?_⟩
 ·exact qsZ
 ·exact⟨by omega,hR.symm⟩
 ·rintro i ⟨hi,he⟩
  by_cases hlt:i<f.length
  ·have hltI:(i:Int)<f.length:=by omega
   obtain⟨x,hx⟩:∃ x,f[i]? = some x:=⟨_,List.getElem?_eq_getElem hlt⟩
   have hhit:=sn (p:=named name) hx
   have hmiss:=oz (p:=named name) hx
   obtain⟨x1,x2,x3,⟨y1,y2,y3,y4,y5,y6,y7⟩,x5⟩:=x
   simp only[named,TFd.name] at hhit hmiss
   by_cases hn:x2=name
   ·rw[he]
    rw[hhit (decide_eq_true hn)]
    simp(disch:=try exact dI) only[hx,hn,tfR,Option.getD_some,Option.isSome_some,TFd.pv_mk,Typ.pv_mk,push_cast,seval]
   ·simp(disch:=try exact dI) only[hx,hn,TFd.pv_mk,Typ.pv_mk,push_cast,seval]
    exact⟨i+1,aM qsZ,⟨by omega,by rw[he];exact hmiss (decide_eq_false hn)⟩,by omega⟩
  ·have hltI:¬ (i:Int)<f.length:=by omega
   rw[he,sq hlt]
   simp(disch:=try exact dI) only[tfR,Option.getD_none,Option.isSome_none,fW,TFd.pv_mk,Typ.pv_mk,push_cast,seval]
theorem Ja (v:Val)(name:List UInt8)(h:v.fields.length<=9000000000000):am Tryz.prog az 121 [v.pv,.str name] (vlR ((v.fields.find? (bc name)).map Fld.value)):=by
 obtain⟨k,i,s,t,l,f⟩:=v
 simp only[Val.fields] at h ⊢
 refine am.intro PL.2 (by simp[PL]) ?_
 generalize hR:f.find? (bc name)=R
 simp(disch:=try exact dI) only[PL,Val.pv_mk,push_cast,seval]
 refine au ([]) (fun m:Nat=>[(6,.pv (.int .i64 (m:Int)))]) (fun m=>[]) (fun m=>m<=f.length/\R=(f.drop m).find? (bc name)) (fun m=>f.length - m) (0) ?_;intro e0 σ0 n0 h0;simp(disch:=try exact dI) only[push_cast,seval] at h0;obtain⟨rfl,rfl,rfl⟩:=h0;refine⟨?_,?_,?_⟩
 ·exact qsZ
 ·exact⟨by omega,hR.symm⟩
 ·rintro i ⟨hi,he⟩
  by_cases hlt:i<f.length
  ·have hltI:(i:Int)<f.length:=by omega
   obtain⟨x,hx⟩:∃ x,f[i]? = some x:=⟨_,List.getElem?_eq_getElem hlt⟩
   have hhit:=sn (p:=bc name) hx
   have hmiss:=oz (p:=bc name) hx
   obtain⟨x1,⟨y1,y2,y3,y4,y5,y6⟩⟩:=x
   simp only[bc,Fld.name] at hhit hmiss
   by_cases hn:x1=name
   ·rw[he]
    rw[hhit (decide_eq_true hn)]
    simp(disch:=try exact dI) only[hx,hn,vlR,Option.map_some,Fld.value,Option.getD_some,Option.isSome_some,Fld.pv_mk,Val.pv_mk,push_cast,seval]
   ·simp(disch:=try exact dI) only[hx,hn,Fld.pv_mk,Val.pv_mk,push_cast,seval]
    exact⟨i+1,aM qsZ,⟨by omega,by rw[he];exact hmiss (decide_eq_false hn)⟩,by omega⟩
  ·have hltI:¬ (i:Int)<f.length:=by omega
   rw[he,sq hlt]
   simp(disch:=try exact dI) only[vlR,Option.map_none,Option.getD_none,Option.isSome_none,nr,Val.pv_mk,push_cast,seval]
theorem LO (l:List (List UInt8))(s:List UInt8)(h:l.length<=9000000000000):am Tryz.prog az 62 [.list (l.map PV.str),.str s] (.bool (l.any fun x=>decide (x=s))):=by
 refine am.intro Q62.2 (by simp[Q62]) ?_
 generalize hR:(l.any fun x=>decide (x=s))=R
 simp(disch:=try exact dI) only[Q62,push_cast,seval]
 refine au ([]) (fun m:Nat=>[(5,.pv (.int .i64 (m:Int)))]) (fun m=>[]) (fun m=>m<=l.length/\R=(l.drop m).any fun x=>decide (x=s)) (fun m=>l.length - m) (0) ?_;intro e0 σ0 n0 h0;simp(disch:=try exact dI) only[push_cast,seval] at h0;obtain⟨rfl,rfl,rfl⟩:=h0;refine⟨?_,?_,?_⟩
 ·exact qsZ
 ·exact⟨by omega,hR.symm⟩
 ·rintro i ⟨hi,he⟩
  by_cases hlt:i<l.length
  ·have hltI:(i:Int)<l.length:=by omega
   obtain⟨x,hx⟩:∃ x,l[i]? = some x:=⟨_,List.getElem?_eq_getElem hlt⟩
   by_cases hn:x=s
   ·rw[he,JH hx (by simp[hn])]
    simp(disch:=try exact dI) only[hx,hn,push_cast,seval]
   ·rw[Fx hx (by simp[hn])] at he
    simp(disch:=try exact dI) only[hx,hn,push_cast,seval]
    exact⟨i+1,aM qsZ,⟨by omega,he⟩,by omega⟩
  ·have hltI:¬ (i:Int)<l.length:=by omega
   rw[he,JI hlt]
   exact qsZ
theorem EJ (l:List (List UInt8))(s:List UInt8)(h:l.length<=9000000000000):am Tryz.prog az 131 [.list (l.map PV.str),.str s] (.int .i64 (d7 (fun x=>decide (x=s)) l 0)):=by
 refine am.intro PI.2 (by simp[PI]) ?_
 generalize hR:d7 (fun x=>decide (x=s)) l 0=R
 simp(disch:=try exact dI) only[PI,push_cast,seval]
 refine au ([]) (fun m:Nat=>[(8,.pv (.int .i64 (m:Int)))]) (fun m=>[]) (fun m=>m<=l.length/\R=d7 (fun x=>decide (x=s)) (l.drop m) m) (fun m=>l.length - m) (0) ?_;intro e0 σ0 n0 h0;simp(disch:=try exact dI) only[push_cast,seval] at h0;obtain⟨rfl,rfl,rfl⟩:=h0;refine⟨?_,?_,?_⟩
 ·exact qsZ
 ·exact⟨by omega,hR.symm⟩
 ·rintro i ⟨hi,he⟩
  by_cases hlt:i<l.length
  ·have hltI:(i:Int)<l.length:=by omega
   obtain⟨x,hx⟩:∃ x,l[i]? = some x:=⟨_,List.getElem?_eq_getElem hlt⟩
   by_cases hn:s=x
   ·rw[he,dX hx (by simp[hn])]
    simp(disch:=try exact dI) only[hx,hn,push_cast,seval]
   ·rw[cQ hx (by simp;exact fun h=>hn h.symm)] at he
    simp(disch:=try exact dI) only[hx,hn,push_cast,seval]
    exact⟨i+1,aM qsZ,⟨by omega,he⟩,by omega⟩
  ·have hltI:¬ (i:Int)<l.length:=by omega
   rw[he,dY hlt]
   exact qsZ
theorem fL (l:List (List UInt8))(s:List UInt8)(h:l.length<=9000000000000):am Tryz.prog az 75 [.list (l.map PV.str),.str s] (.bool (l.any fun x=>decide (x=s))):=by
 have h111:=EJ l s h
 have hfa:=eI (p:=fun x=>decide (x=s)) l
 refine am.intro Q75.2 (by simp[Q75]) ?_
 rcases bx (p:=fun x=>decide (x=s)) l 0 with ⟨h1,h2⟩ | ⟨k,x,h1,h2,h3⟩
 ·rw[h2] at h111
  rw[h1] at hfa
  rw[<- hfa]
  simp(disch:=try exact dI) only[Q75,push_cast,seval]
  refine ab.pure h111 rfl ?_
  refine zgZ ?_
  exact .refl _
 ·rw[h3] at h111
  rw[h2] at hfa
  rw[<- hfa]
  have hk:(0:Int)<=((0+k:Nat):Int):=by omega
  generalize ((0+k:Nat):Int)=z at *
  simp(disch:=try exact dI) only[Q75,push_cast,seval]
  refine ab.pure h111 rfl ?_
  refine zgZ ?_
  exact .refl _
theorem Ml (x:Fld)(name:List UInt8):am Tryz.prog az 146 [x.pv,.eptr [.str name] 0 0] (.bool (bc name x)):=by
 obtain⟨a,⟨k,m,n,s,w,e⟩⟩:=x
 refine am.intro PA.2 (by simp[PA]) ?_
 simp(disch:=try exact dI) only[PA,Fld.pv_mk,Val.pv_mk,bc,Fld.name,push_cast,seval]
 exact decide_eq_decide.2 Iff.rfl
theorem EH (l:List Fld)(g:Nat)(cs:List PV)(q:Fld->Bool)(hq:∀ x∈l,am Tryz.prog az g (x.pv::cs) (.bool (q x)))(hl:l.length<=9000000000000) :
  am Tryz.prog az 145 [.list (l.map Fld.pv),.clo g [] cs] (.int .i64 (d7 q l 0)):=by
 refine am.intro PB.2 (by simp[PB]) ?_
 simp(disch:=try exact dI) only[PB,push_cast,seval]
 refine au ([]) (fun m:Nat=>[(8,.pv (.int .i64 (m:Int)))]) (fun m=>[]) (fun m=>m<=l.length/\d7 q l 0=d7 q (l.drop m) m) (fun m=>l.length - m) (0) ?_;intro e0 σ0 n0 h0;simp(disch:=try exact dI) only[push_cast,seval] at h0;obtain⟨rfl,rfl,rfl⟩:=h0;refine⟨?_,?_,?_⟩
 ·exact qsZ
 ·exact⟨by omega,by simp⟩
 ·rintro m ⟨hm,he⟩
  by_cases hlt:m<l.length
  ·have hltI:(m:Int)<l.length:=by omega
   obtain⟨x,hx⟩:∃ x,l[m]? = some x:=⟨_,List.getElem?_eq_getElem hlt⟩
   have hcall:=hq x (List.mem_of_getElem? hx)
   simp(disch:=try exact dI) only[hx,Fld.cells_len,Fld.isAgg,push_cast,seval]
   refine ab.pure hcall (by exact nU (x.pv::cs)) ?_
   cases hqx:q x with
   | true=>
     rw[he,dX hx hqx]
     exact qsZ
   | false=>
     rw[cQ hx hqx] at he
     refine zgZ ?_
     exact⟨m+1,aM qsZ,⟨by omega,he⟩,by omega⟩
  ·have hltI:¬ (m:Int)<l.length:=by omega
   rw[he,dY hlt]
   exact qsZ
theorem EF (v:Val)(name:List UInt8)(h:v.fields.length<=9000000000000):am Tryz.prog az 91 [v.pv,.str name] (.int .i64 (d7 (bc name) v.fields 0)):=by
 obtain⟨k,i,s,t,l,f⟩:=v
 simp only[Val.fields] at h ⊢
 have h117:=EH f 146 [.eptr [.str name] 0 0] (bc name) (fun x _=>Ml x name) (by omega)
 refine am.intro Q91.2 (by simp[Q91]) ?_
 simp(disch:=try exact dI) only[Q91,Val.pv_mk,push_cast,seval]
 refine ab.pure h117 rfl ?_
 exact qsZ
theorem mQ (v:Val)(name:List UInt8)(hv:v.ok)(hk:v.kind=9)(h:v.fields.length<=9000000000000):am Tryz.prog az 44 [v.pv,.str name] (vlR ((v.fields.find? (bc name)).map Fld.value)):=by
 have h127:=EF v name h
 obtain⟨k,i,s,t,l,f⟩:=v
 rw[Val.ok_mk] at hv
 simp only[Val.fields,Val.kind] at h hk h127 ⊢
 rw[Val.pv_mk] at h127
 refine am.intro Q44.2 (by simp[Q44]) ?_
 rcases bx (p:=bc name) f 0 with ⟨h1,h2⟩ | ⟨i',x,h1,h2,h3⟩
 ·rw[h1]
  rw[h2] at h127
  simp(disch:=try exact dI) only[Q44,Val.pv_mk,push_cast,seval]
  refine ab.pure h127 rfl ?_
  simp(disch:=try exact dI) only[hk,vlR,Option.map_none,Option.getD_none,Option.isSome_none,nr,Val.pv_mk,push_cast,seval]
 ·rw[h2]
  rw[h3,Nat.zero_add] at h127
  have hxo:=hv.2.2.2.2.2.2.2 x (List.mem_of_getElem? h1)
  obtain⟨x1,x2⟩:=x
  rw[Fld.ok_mk] at hxo
  have hcl:=oG _ x2 (Nat.lt_succ_self _) hxo.2
  obtain⟨y1,y2,y3,y4,y5,y6⟩:=x2
  rw[Val.pv_mk] at hcl
  have hi:¬ (i':Int)<0:=by omega
  simp(disch:=try exact dI) only[Q44,Val.pv_mk,push_cast,seval]
  refine ab.pure h127 rfl ?_
  simp(disch:=try exact dI) only[h1,hk,Fld.pv_mk,Val.pv_mk,push_cast,seval]
  refine ab.pure hcl rfl ?_
  simp(disch:=try exact dI) only[vlR,Option.map_some,Fld.value,Option.getD_some,Option.isSome_some,Val.pv_mk,push_cast,seval]
end Go.Proofs.YtbojpfpliibfbaaGreatDoor
-- many steps
namespace Go.Proofs.YtbojpfpliibfbaaGreatDoor
open Go Go.Ab
attribute [local irreducible] vc
theorem Fg (w:List (List UInt8))(hw:w.length*16<=140737488351232):am Tryz.prog az 322 [.list (w.map PV.str)] (.list (w.map PV.str)):=by
 refine am.intro Ns.2 (by simp[Ns]) ?_
 cases w with
 | nil=>
   simp(disch:=try exact dI) only[Ns,push_cast,seval]
   intro b
   cases b<;>simp(disch:=try exact dI) only[push_cast,seval]
 | cons x r=>
   rw[List.length_cons] at hw
   simp(disch:=try exact dI) only[Ns,push_cast,seval]
theorem sE (n:Int)(nm:List UInt8)(nd k m M s:Int)(w:List (List UInt8))(e:List Typ)(f:List TFd)(d:List Val)(hT:am Tryz.prog az 318 [(Typ.mk k m M s w e f).pv] (Typ.mk k m M s w e f).pv)(hd:d.length*88<=140737488351232)(hv:∀ v∈d,v.ok) :
  am Tryz.prog az 311 [(TFd.mk n nm nd (Typ.mk k m M s w e f) d).pv] (TFd.mk n nm nd (Typ.mk k m M s w e f) d).pv:=by
 simp only[Typ.pv_mk] at hT
 refine am.intro O5.2 (by simp[O5]) ?_
 simp(disch:=try exact dI) only[O5,TFd.pv_mk,Typ.pv_mk,ag,push_cast,seval]
 refine ab.pure hT rfl ?_
 refine zgZ ?_
 refine au ([]) (fun i:Nat=>[(17,.pv (.int .i64 (i:Int))),(3,.olist 2 6 ((d.take i).map Val.pv))]) (fun _=>[]) (fun i=>i<=d.length) (fun i=>d.length - i) (0) ?_;intro e0 σ0 n0 h0;simp(disch:=try exact dI) only[push_cast,seval] at h0;obtain⟨rfl,rfl,rfl⟩:=h0;refine⟨?_,?_,?_⟩
 ·exact qsZ
 ·omega
 intro i hi
 by_cases hlt:i<d.length
 ·have hltI:(i:Int)<(d.length:Int):=by omega
  obtain⟨x,hx⟩:∃ x,d[i]? = some x:=⟨_,List.getElem?_eq_getElem hlt⟩
  have hc:=oG _ x (Nat.lt_succ_self _) (hv x (List.mem_of_getElem? hx))
  have hts:=aK hx
  have hlt2:(d.take i).length=i:=by rw[List.length_take];omega
  obtain⟨vk,vn,vs,vt,vl,vf⟩:=x
  simp only[Val.pv_mk] at hc
  simp(disch:=try exact dI) only[hx,Option.map_some,Val.pv_mk,push_cast,seval]
  refine ab.pure hc rfl ?_
  simp(disch:=try exact dI) only[hlt2,push_cast,seval]
  exact⟨i+1,aM (by simp(disch:=try exact dI) only[hts,List.map_append,Val.pv_mk,push_cast,seval]),by omega,by omega⟩
 ·obtain rfl:i=d.length:=by omega
  simp(disch:=try exact dI) only[List.take_length,Int.lt_irrefl,push_cast,seval]
def bD:Nat->Typ->Prop
 | 0,_=>False
 | n+1,.mk k m M s w e f=>w.length*16<=140737488351232/\e.length*104<=140737488351232/\f.length*160<=140737488351232/\(∀ x∈e,bD n x)/\∀ g∈f,g.dflt.length*88<=140737488351232/\(∀ v∈g.dflt,v.ok)/\bD n g.typ
theorem sD:∀ (n:Nat) (t:Typ),bD n t->am Tryz.prog az 318 [t.pv] t.pv
 | 0,_,h=>h.elim
 | n+1,.mk k m M s w e f,h=>by
   have ih:=sD n
   simp only[bD] at h
   obtain⟨hw,hel,hfl,he,hf⟩:=h
   have h297:=Fg w hw
   refine am.intro O4.2 (by simp[O4]) ?_
   simp(disch:=try exact dI) only[O4,Typ.pv_mk,push_cast,seval]
   refine au ([]) (fun i:Nat=>[(16,.pv (.int .i64 (i:Int))),(3,.olist 2 7 ((e.take i).map Typ.pv))]) (fun _=>[]) (fun i=>i<=e.length) (fun i=>e.length - i) (0) ?_;intro e0 σ0 n0 h0;simp(disch:=try exact dI) only[push_cast,seval] at h0;obtain⟨rfl,rfl,rfl⟩:=h0;refine⟨?_,?_,?_⟩
   ·exact qsZ
   ·omega
   intro i hi
   by_cases hlt:i<e.length
   ·have hltI:(i:Int)<(e.length:Int):=by omega
    obtain⟨x,hx⟩:∃ x,e[i]? = some x:=⟨_,List.getElem?_eq_getElem hlt⟩
    have hc:=ih x (he x (List.mem_of_getElem? hx))
    have hts:=aK hx
    have hlt2:(e.take i).length=i:=by rw[List.length_take];omega
    obtain⟨k',m',M',s',w',e',f'⟩:=x
    simp only[Typ.pv_mk] at hc
    simp(disch:=try exact dI) only[hx,Option.map_some,Typ.pv_mk,ag,push_cast,seval]
    refine ab.pure hc rfl ?_
    simp(disch:=try exact dI) only[hlt2,push_cast,seval]
    exact⟨i+1,aM (by simp(disch:=try exact dI) only[hts,List.map_append,Typ.pv_mk,push_cast,seval]),by omega,by omega⟩
   obtain rfl:i=e.length:=by omega
   clear hi hlt
   simp(disch:=try exact dI) only[List.take_length,Int.lt_irrefl,push_cast,seval]
   refine au ([]) (fun i:Nat=>[(33,.pv (.int .i64 (i:Int))),(6,.olist 3 11 ((f.take i).map TFd.pv))]) (fun _=>[]) (fun i=>i<=f.length) (fun i=>f.length - i) (0) ?_;intro e0 σ0 n0 h0;simp(disch:=try exact dI) only[push_cast,seval] at h0;obtain⟨rfl,rfl,rfl⟩:=h0;refine⟨?_,?_,?_⟩
   ·exact qsZ
   ·omega
   intro i hi
   by_cases hlt:i<f.length
   ·have hltI:(i:Int)<(f.length:Int):=by omega
    obtain⟨x,hx⟩:∃ x,f[i]? = some x:=⟨_,List.getElem?_eq_getElem hlt⟩
    obtain⟨hdl,hdv,hds⟩:=hf x (List.mem_of_getElem? hx)
    have hts:=aK hx
    have hlt2:(f.take i).length=i:=by rw[List.length_take];omega
    obtain⟨n',nm',nd',⟨k',m',M',s',w',e',f'⟩,d'⟩:=x
    have hc:=sE n' nm' nd' k' m' M' s' w' e' f' d' (ih _ hds) hdl hdv
    simp only[TFd.pv_mk,Typ.pv_mk,ag] at hc
    simp(disch:=try exact dI) only[hx,Option.map_some,TFd.pv_mk,Typ.pv_mk,ag,push_cast,seval]
    refine ab.pure hc rfl ?_
    simp(disch:=try exact dI) only[hlt2,push_cast,seval]
    exact⟨i+1,aM (by simp(disch:=try exact dI) only[hts,List.map_append,TFd.pv_mk,Typ.pv_mk,ag,push_cast,seval]),by omega,by omega⟩
   obtain rfl:i=f.length:=by omega
   clear hi hlt
   simp(disch:=try exact dI) only[List.take_length,Int.lt_irrefl,push_cast,seval]
   refine ab.pure h297 rfl ?_
   exact qsZ
end Go.Proofs.YtbojpfpliibfbaaGreatDoor
-- many steps
namespace Go.Proofs.YtbojpfpliibfbaaGreatDoor
open Go Go.Ab
attribute [local irreducible] vc
theorem Mi (x:TFd)(name:List UInt8):am Tryz.prog az 299 [x.pv,.eptr [.str name] 0 0] (.bool (named name x)):=by
 obtain⟨a,b,c,⟨k,m,n,s,w,e,fs⟩,d⟩:=x
 refine am.intro O7.2 (by simp[O7]) ?_
 simp(disch:=try exact dI) only[O7,TFd.pv_mk,Typ.pv_mk,named,TFd.name,push_cast,seval]
 exact decide_eq_decide.2 Iff.rfl
theorem nF {n:Nat}{k m M s:Int}{w:List (List UInt8)}{e:List Typ}{f:List TFd}(h:bD (n+1) (.mk k m M s w e f)){x:TFd}(hx:x∈f):am Tryz.prog az 311 [x.pv] x.pv:=by
 simp only[bD] at h
 obtain⟨h1,h2,h3⟩:=h.2.2.2.2 x hx
 obtain⟨n',nm',nd',⟨k',m',M',s',w',e',f'⟩,d'⟩:=x
 exact sE _ _ _ _ _ _ _ _ _ _ _ (sD n _ h3) h1 h2
def bz (t:Typ)(name:List UInt8):Option TFd:=if t.kind=9\/t.kind=10 then t.fields.find? (named name) else none
theorem I8 (n:Nat)(t:Typ)(name:List UInt8)(h:bD n t):am Tryz.prog az 298 [t.pv,.clo 299 [] [.eptr [.str name] 0 0]] (tfR (bz t name)):=by
 cases n with
 | zero=>exact h.elim
 | succ n=>
 obtain⟨k,m,M,s,w,e,f⟩:=t
 have hcl:=fun x hx=>nF h (x:=x) hx
 have hfl:f.length<=9000000000000:=by simp only[bD] at h;have:=h.2.2.1;omega
 clear h
 have h147:=qy f 299 [.eptr [.str name] 0 0] (named name) (fun x _=>Mi x name) (by omega)
 refine am.intro MY.2 (by simp[MY]) ?_
 by_cases hk:k=9\/k=10
 ·rw[show bz (.mk k m M s w e f) name=f.find? (named name) from if_pos hk]
  rcases bx (p:=named name) f 0 with ⟨h1,h2⟩ | ⟨i,x,h1,h2,h3⟩
  ·rw[h1]
   rw[h2] at h147
   rcases hk with rfl | rfl
   all_goals
    simp(disch:=try exact dI) only[MY,Typ.pv_mk,push_cast,seval]
    refine ab.pure h147 rfl ?_
    simp(disch:=try exact dI) only[tfR,Option.getD_none,Option.isSome_none,fW,TFd.pv_mk,Typ.pv_mk,ag,push_cast,seval]
  ·rw[h2]
   rw[h3,Nat.zero_add] at h147
   have hc:=hcl x (List.mem_of_getElem? h1)
   obtain⟨x1,x2,x3,⟨y1,y2,y3,y4,y5,y6,y7⟩,x5⟩:=x
   simp only[TFd.pv_mk,Typ.pv_mk,ag] at hc
   have hi:¬ (i:Int)<0:=by omega
   rcases hk with rfl | rfl
   all_goals
    simp(disch:=try exact dI) only[MY,Typ.pv_mk,push_cast,seval]
    refine ab.pure h147 rfl ?_
    simp(disch:=try exact dI) only[h1,Option.map_some,TFd.pv_mk,Typ.pv_mk,ag,push_cast,seval]
    refine ab.pure hc rfl ?_
    simp(disch:=try exact dI) only[tfR,Option.getD_some,Option.isSome_some,TFd.pv_mk,Typ.pv_mk,ag,push_cast,seval]
 ·rw[show bz (.mk k m M s w e f) name=none from if_neg hk]
  have h9:¬ k=9:=by omega
  have h10:¬ k=10:=by omega
  simp(disch:=try exact dI) only[MY,Typ.pv_mk,tfR,Option.getD_none,Option.isSome_none,fW,TFd.pv_mk,ag,push_cast,seval]
theorem sv (n:Nat)(t:Typ)(name:List UInt8)(h:bD n t):am Tryz.prog az 265 [t.pv,.str name] (tfR (bz t name)):=by
 have hf:=I8 n t name h
 generalize bz t name=o at hf ⊢
 obtain⟨k,m,M,s,w,e,f⟩:=t
 simp only[Typ.pv_mk] at hf
 refine am.intro Nu.2 (by simp[Nu]) ?_
 cases o with
 | none=>
   simp only[tfR,Option.getD_none,Option.isSome_none,fW,TFd.pv_mk,Typ.pv_mk,ag] at hf ⊢
   simp(disch:=try exact dI) only[Nu,Typ.pv_mk,push_cast,seval]
   refine ab.pure hf rfl ?_
   exact qsZ
 | some x=>
   obtain⟨x1,x2,x3,⟨y1,y2,y3,y4,y5,y6,y7⟩,x5⟩:=x
   simp only[tfR,Option.getD_some,Option.isSome_some,TFd.pv_mk,Typ.pv_mk,ag] at hf ⊢
   simp(disch:=try exact dI) only[Nu,Typ.pv_mk,push_cast,seval]
   refine ab.pure hf rfl ?_
   exact qsZ
end Go.Proofs.YtbojpfpliibfbaaGreatDoor
