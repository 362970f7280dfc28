/- A part of the proof. -/
import Derived.Test.YtbojpfpliibfbaaGreatDoorDeRS5
set_option maxHeartbeats 16000000
set_option maxRecDepth 100000
set_option linter.unusedVariables false
set_option linter.unusedSimpArgs false
namespace Go.Proofs.YtbojpfpliibfbaaGreatDoor
open Go Go.Ab
theorem g7:∀ (n:Nat) (v:Val),SizeOf.sizeOf v<n->v.ok->ak Tryz.prog ap 92 [v.pv] v.pv:=by
 intro n
 induction n with
 | zero=>intro v h;omega
 | succ n ih=>
 intro v hn hv
 obtain⟨k,i,s,t,l,f⟩:=v
 rw[Val.ok_mk] at hv
 obtain⟨h1,h2,h3,h4,h5,h7,h6,h8⟩:=hv
 simp only[Val.mk.sizeOf_spec] at hn
 have hl:∀ x∈l,ak Tryz.prog ap 92 [x.pv] x.pv:=fun x hx=>ih x (by have:=List.sizeOf_lt_of_mem hx;omega) (h7 x hx)
 have hf:∀ a v,Fld.mk a v∈f->ak Tryz.prog ap 92 [v.pv] v.pv:=fun a v hx=>ih v (by have:=List.sizeOf_lt_of_mem hx;simp only[Fld.mk.sizeOf_spec] at this;omega) (by have:=h8 _ hx;rw[Fld.ok_mk] at this;exact this.2)
 refine ak.intro Q92.2 (by simp[Q92]) ?_
 simp(disch:=try exact dI) only[Q92,Val.pv_mk,push_cast,seval]
 refine am ([(3,5,36,6)]) (fun m:Nat=>[(14,.pv (.int .i64 (m:Int)))]) (fun m=>[(1,.cells 36 true [.pv (.int .i64 k),.pv (.int .i64 i),.pv (.int .i64 s),.pv (.str t),.olist 2 6 ((l.take m).map Val.pv),.pv .nils])]) (fun m=>m<=l.length) (fun m=>l.length - m) (0) ?_;intro e0 σ0 n0 h0;simp(disch:=try exact dI) only[push_cast,seval] at h0;obtain⟨rfl,rfl,rfl⟩:=h0;refine⟨?_,?_,?_⟩
 ·exact qsZ
 ·omega
 ·intro m hm
  by_cases hlt:m<l.length
  ·have hltI:(m:Int)<l.length:=by omega
   obtain⟨x,hx⟩:∃ x,l[m]? = some x:=⟨_,List.getElem?_eq_getElem hlt⟩
   have hts:=aB hx
   have hlt2:(l.take m).length=m:=by rw[List.length_take];omega
   have hcall:=hl x (List.mem_of_getElem? hx)
   obtain⟨w1,w2,w3,w4,w5,w6⟩:=x
   rw[Val.pv_mk] at hcall
   simp(disch:=try exact dI) only[hx,Val.pv_mk,push_cast,seval]
   refine ae hcall rfl ?_
   simp(disch:=try exact dI) only[hlt2,push_cast,seval]
   exact⟨m+1,aI (by simp(disch:=try exact dI) only[hts,List.map_append,Val.pv_mk,push_cast,seval]),by omega,by omega⟩
  ·have hltI:¬ (m:Int)<l.length:=by omega
   have hle:l.take m=l:=List.take_of_length_le (by omega)
   simp(disch:=try exact dI) only[hle,push_cast,seval]
   refine am ([(3,6,60,7)]) (fun m:Nat=>[(29,.pv (.int .i64 (m:Int)))]) (fun m=>[(1,.cells 36 true [.pv (.int .i64 k),.pv (.int .i64 i),.pv (.int .i64 s),.pv (.str t),.olist 2 6 (l.map Val.pv),.olist 3 7 ((f.take m).map Fld.pv)])]) (fun m=>m<=f.length) (fun m=>f.length - m) (0) ?_;intro e0 σ0 n0 h0;simp(disch:=try exact dI) only[push_cast,seval] at h0;obtain⟨rfl,rfl,rfl⟩:=h0;refine⟨?_,?_,?_⟩
   ·exact qsZ
   ·omega
   ·intro m hm
    by_cases hlt:m<f.length
    ·have hltI:(m:Int)<f.length:=by omega
     obtain⟨⟨a,v⟩,hx⟩:∃ x,f[m]? = some x:=⟨_,List.getElem?_eq_getElem hlt⟩
     have hts:=aB hx
     have hlt2:(f.take m).length=m:=by rw[List.length_take];omega
     have hcall:=hf a v (List.mem_of_getElem? hx)
     obtain⟨w1,w2,w3,w4,w5,w6⟩:=v
     rw[Val.pv_mk] at hcall
     simp(disch:=try exact dI) only[hx,Fld.pv_mk,Val.pv_mk,push_cast,seval]
     refine ae hcall rfl ?_
     simp(disch:=try exact dI) only[hlt2,push_cast,seval]
     exact⟨m+1,aI (by simp(disch:=try exact dI) only[hts,List.map_append,Fld.pv_mk,Val.pv_mk,push_cast,seval]),by omega,by omega⟩
    ·have hltI:¬ (m:Int)<f.length:=by omega
     have hle:f.take m=f:=List.take_of_length_le (by omega)
     simp(disch:=try exact dI) only[hle,push_cast,seval]
attribute [local irreducible] vc
def named (name:List UInt8)(x:TFd):Bool:=decide (x.name=name)
def aP (name:List UInt8)(x:Fld):Bool:=decide (x.name=name)
def iR:TFd:=.mk 0 [] 0 (.mk 0 0 0 0 [] [] []) []
def eM:Val:=.mk 0 0 0 [] [] []
def tfR (o:Option TFd):PV:=.tup [(o.getD iR).pv,.bool o.isSome]
def vlR (o:Option Val):PV:=.tup [(o.getD eM).pv,.bool o.isSome]
theorem qE (t:Typ)(name:List UInt8)(h:t.fields.length<=9000000000000):ak Tryz.prog ap 65 [t.pv,.str name] (tfR (t.fields.find? (named name))):=by
 obtain⟨k,m,n,s,w,e,f⟩:=t
 simp only[Typ.fields] at h ⊢
 refine ak.intro Q65.2 (by simp[Q65]) ?_
 generalize hR:f.find? (named name)=R
 simp(disch:=try exact dI) only[Q65,Typ.pv_mk,push_cast,seval]
 refine am ([]) (fun m:Nat=>[(6,.pv (.int .i64 (m:Int)))]) (fun m=>[]) (fun m=>m<=f.length/\R=(f.drop m).find? (named name)) (fun m=>f.length - m) (0) ?_;intro e0 σ0 n0 h0;simp(disch:=try exact dI) only[push_cast,seval] at h0;obtain⟨rfl,rfl,rfl⟩:=h0;refine⟨?_,?_,?_⟩
 ·exact qsZ
 ·exact⟨by omega,hR.symm⟩
 ·rintro i ⟨hi,he⟩
  by_cases hlt:i<f.length
  ·have hltI:(i:Int)<f.length:=by omega
   obtain⟨x,hx⟩:∃ x,f[i]? = some x:=⟨_,List.getElem?_eq_getElem hlt⟩
   have hhit:=ud (p:=named name) hx
   have hmiss:=pH (p:=named name) hx
   obtain⟨x1,x2,x3,⟨y1,y2,y3,y4,y5,y6,y7⟩,x5⟩:=x
   simp only[named,TFd.name] at hhit hmiss
   by_cases hn:x2=name
   ·rw[he]
    rw[hhit (decide_eq_true hn)]
    simp(disch:=try exact dI) only[hx,hn,tfR,Option.getD_some,Option.isSome_some,TFd.pv_mk,Typ.pv_mk,push_cast,seval]
   ·simp(disch:=try exact dI) only[hx,hn,TFd.pv_mk,Typ.pv_mk,push_cast,seval]
    exact⟨i+1,aI qsZ,⟨by omega,by rw[he];exact hmiss (decide_eq_false hn)⟩,by omega⟩
  ·have hltI:¬ (i:Int)<f.length:=by omega
   rw[he,ue hlt]
   simp(disch:=try exact dI) only[tfR,Option.getD_none,Option.isSome_none,iR,TFd.pv_mk,Typ.pv_mk,push_cast,seval]
theorem KQ (v:Val)(name:List UInt8)(h:v.fields.length<=9000000000000):ak Tryz.prog ap 121 [v.pv,.str name] (vlR ((v.fields.find? (aP name)).map Fld.value)):=by
 obtain⟨k,i,s,t,l,f⟩:=v
 simp only[Val.fields] at h ⊢
 refine ak.intro Sh.2 (by simp[Sh]) ?_
 generalize hR:f.find? (aP name)=R
 simp(disch:=try exact dI) only[Sh,Val.pv_mk,push_cast,seval]
 refine am ([]) (fun m:Nat=>[(6,.pv (.int .i64 (m:Int)))]) (fun m=>[]) (fun m=>m<=f.length/\R=(f.drop m).find? (aP name)) (fun m=>f.length - m) (0) ?_;intro e0 σ0 n0 h0;simp(disch:=try exact dI) only[push_cast,seval] at h0;obtain⟨rfl,rfl,rfl⟩:=h0;refine⟨?_,?_,?_⟩
 ·exact qsZ
 ·exact⟨by omega,hR.symm⟩
 ·rintro i ⟨hi,he⟩
  by_cases hlt:i<f.length
  ·have hltI:(i:Int)<f.length:=by omega
   obtain⟨x,hx⟩:∃ x,f[i]? = some x:=⟨_,List.getElem?_eq_getElem hlt⟩
   have hhit:=ud (p:=aP name) hx
   have hmiss:=pH (p:=aP name) hx
   obtain⟨x1,⟨y1,y2,y3,y4,y5,y6⟩⟩:=x
   simp only[aP,Fld.name] at hhit hmiss
   by_cases hn:x1=name
   ·rw[he]
    rw[hhit (decide_eq_true hn)]
    simp(disch:=try exact dI) only[hx,hn,vlR,Option.map_some,Fld.value,Option.getD_some,Option.isSome_some,Fld.pv_mk,Val.pv_mk,push_cast,seval]
   ·simp(disch:=try exact dI) only[hx,hn,Fld.pv_mk,Val.pv_mk,push_cast,seval]
    exact⟨i+1,aI qsZ,⟨by omega,by rw[he];exact hmiss (decide_eq_false hn)⟩,by omega⟩
  ·have hltI:¬ (i:Int)<f.length:=by omega
   rw[he,ue hlt]
   simp(disch:=try exact dI) only[vlR,Option.map_none,Option.getD_none,Option.isSome_none,eM,Val.pv_mk,push_cast,seval]
theorem QL (l:List (List UInt8))(s:List UInt8)(h:l.length<=9000000000000):ak Tryz.prog ap 62 [.list (l.map PV.str),.str s] (.bool (l.any fun x=>decide (x=s))):=by
 refine ak.intro Q62.2 (by simp[Q62]) ?_
 generalize hR:(l.any fun x=>decide (x=s))=R
 simp(disch:=try exact dI) only[Q62,push_cast,seval]
 refine am ([]) (fun m:Nat=>[(5,.pv (.int .i64 (m:Int)))]) (fun m=>[]) (fun m=>m<=l.length/\R=(l.drop m).any fun x=>decide (x=s)) (fun m=>l.length - m) (0) ?_;intro e0 σ0 n0 h0;simp(disch:=try exact dI) only[push_cast,seval] at h0;obtain⟨rfl,rfl,rfl⟩:=h0;refine⟨?_,?_,?_⟩
 ·exact qsZ
 ·exact⟨by omega,hR.symm⟩
 ·rintro i ⟨hi,he⟩
  by_cases hlt:i<l.length
  ·have hltI:(i:Int)<l.length:=by omega
   obtain⟨x,hx⟩:∃ x,l[i]? = some x:=⟨_,List.getElem?_eq_getElem hlt⟩
   by_cases hn:x=s
   ·rw[he,Lm hx (by simp[hn])]
    simp(disch:=try exact dI) only[hx,hn,push_cast,seval]
   ·rw[Hj hx (by simp[hn])] at he
    simp(disch:=try exact dI) only[hx,hn,push_cast,seval]
    exact⟨i+1,aI qsZ,⟨by omega,he⟩,by omega⟩
  ·have hltI:¬ (i:Int)<l.length:=by omega
   rw[he,Ln hlt]
   exact qsZ
theorem Gg (l:List (List UInt8))(s:List UInt8)(h:l.length<=9000000000000):ak Tryz.prog ap 131 [.list (l.map PV.str),.str s] (.int .i64 (dt (fun x=>decide (x=s)) l 0)):=by
 refine ak.intro Se.2 (by simp[Se]) ?_
 generalize hR:dt (fun x=>decide (x=s)) l 0=R
 simp(disch:=try exact dI) only[Se,push_cast,seval]
 refine am ([]) (fun m:Nat=>[(8,.pv (.int .i64 (m:Int)))]) (fun m=>[]) (fun m=>m<=l.length/\R=dt (fun x=>decide (x=s)) (l.drop m) m) (fun m=>l.length - m) (0) ?_;intro e0 σ0 n0 h0;simp(disch:=try exact dI) only[push_cast,seval] at h0;obtain⟨rfl,rfl,rfl⟩:=h0;refine⟨?_,?_,?_⟩
 ·exact qsZ
 ·exact⟨by omega,hR.symm⟩
 ·rintro i ⟨hi,he⟩
  by_cases hlt:i<l.length
  ·have hltI:(i:Int)<l.length:=by omega
   obtain⟨x,hx⟩:∃ x,l[i]? = some x:=⟨_,List.getElem?_eq_getElem hlt⟩
   by_cases hn:s=x
   ·rw[he,di hx (by simp[hn])]
    simp(disch:=try exact dI) only[hx,hn,push_cast,seval]
   ·rw[b9 hx (by simp;exact fun h=>hn h.symm)] at he
    simp(disch:=try exact dI) only[hx,hn,push_cast,seval]
    exact⟨i+1,aI qsZ,⟨by omega,he⟩,by omega⟩
  ·have hltI:¬ (i:Int)<l.length:=by omega
   rw[he,dj hlt]
   exact qsZ
theorem iM (l:List (List UInt8))(s:List UInt8)(h:l.length<=9000000000000):ak Tryz.prog ap 75 [.list (l.map PV.str),.str s] (.bool (l.any fun x=>decide (x=s))):=by
 have h111:=Gg l s h
 have hfa:=dz (p:=fun x=>decide (x=s)) l
 refine ak.intro Q75.2 (by simp[Q75]) ?_
 rcases bp (p:=fun x=>decide (x=s)) l 0 with ⟨h1,h2⟩ | ⟨k,x,h1,h2,h3⟩
 ·rw[h2] at h111
  rw[h1] at hfa
  rw[<- hfa]
  simp(disch:=try exact dI) only[Q75,push_cast,seval]
  refine ab.pure h111 rfl ?_
  refine zgZ ?_
  exact .refl _
 ·rw[h3] at h111
  rw[h2] at hfa
  rw[<- hfa]
  have hk:(0:Int)<=((0+k:Nat):Int):=by omega
  generalize ((0+k:Nat):Int)=z at *
  simp(disch:=try exact dI) only[Q75,push_cast,seval]
  refine ab.pure h111 rfl ?_
  refine zgZ ?_
  exact .refl _
theorem Oo (x:Fld)(name:List UInt8):ak Tryz.prog ap 146 [x.pv,.eptr [.str name] 0 0] (.bool (aP name x)):=by
 obtain⟨a,⟨k,m,n,s,w,e⟩⟩:=x
 refine ak.intro Sa.2 (by simp[Sa]) ?_
 simp(disch:=try exact dI) only[Sa,Fld.pv_mk,Val.pv_mk,aP,Fld.name,push_cast,seval]
 exact decide_eq_decide.2 Iff.rfl
theorem Ge (l:List Fld)(g:Nat)(cs:List PV)(q:Fld->Bool)(hq:∀ x∈l,ak Tryz.prog ap g (x.pv::cs) (.bool (q x)))(hl:l.length<=9000000000000) :
  ak Tryz.prog ap 145 [.list (l.map Fld.pv),.clo g [] cs] (.int .i64 (dt q l 0)):=by
 refine ak.intro Mq.2 (by simp[Mq]) ?_
 simp(disch:=try exact dI) only[Mq,push_cast,seval]
 refine am ([]) (fun m:Nat=>[(8,.pv (.int .i64 (m:Int)))]) (fun m=>[]) (fun m=>m<=l.length/\dt q l 0=dt q (l.drop m) m) (fun m=>l.length - m) (0) ?_;intro e0 σ0 n0 h0;simp(disch:=try exact dI) only[push_cast,seval] at h0;obtain⟨rfl,rfl,rfl⟩:=h0;refine⟨?_,?_,?_⟩
 ·exact qsZ
 ·exact⟨by omega,by simp⟩
 ·rintro m ⟨hm,he⟩
  by_cases hlt:m<l.length
  ·have hltI:(m:Int)<l.length:=by omega
   obtain⟨x,hx⟩:∃ x,l[m]? = some x:=⟨_,List.getElem?_eq_getElem hlt⟩
   have hcall:=hq x (List.mem_of_getElem? hx)
   simp(disch:=try exact dI) only[hx,Fld.cells_len,Fld.isAgg,push_cast,seval]
   refine ab.pure hcall (by exact tf (x.pv::cs)) ?_
   cases hqx:q x with
   | true=>
     rw[he,di hx hqx]
     exact qsZ
   | false=>
     rw[b9 hx hqx] at he
     refine zgZ ?_
     exact⟨m+1,aI qsZ,⟨by omega,he⟩,by omega⟩
  ·have hltI:¬ (m:Int)<l.length:=by omega
   rw[he,dj hlt]
   exact qsZ
theorem Gc (v:Val)(name:List UInt8)(h:v.fields.length<=9000000000000):ak Tryz.prog ap 91 [v.pv,.str name] (.int .i64 (dt (aP name) v.fields 0)):=by
 obtain⟨k,i,s,t,l,f⟩:=v
 simp only[Val.fields] at h ⊢
 have h117:=Ge f 146 [.eptr [.str name] 0 0] (aP name) (fun x _=>Oo x name) (by omega)
 refine ak.intro Q91.2 (by simp[Q91]) ?_
 simp(disch:=try exact dI) only[Q91,Val.pv_mk,push_cast,seval]
 refine ab.pure h117 rfl ?_
 exact qsZ
theorem GL (v:Val)(name:List UInt8)(hv:v.ok)(hk:v.kind=9)(h:v.fields.length<=9000000000000):ak Tryz.prog ap 44 [v.pv,.str name] (vlR ((v.fields.find? (aP name)).map Fld.value)):=by
 have h127:=Gc v name h
 obtain⟨k,i,s,t,l,f⟩:=v
 rw[Val.ok_mk] at hv
 simp only[Val.fields,Val.kind] at h hk h127 ⊢
 rw[Val.pv_mk] at h127
 refine ak.intro Q44.2 (by simp[Q44]) ?_
 rcases bp (p:=aP name) f 0 with ⟨h1,h2⟩ | ⟨i',x,h1,h2,h3⟩
 ·rw[h1]
  rw[h2] at h127
  simp(disch:=try exact dI) only[Q44,Val.pv_mk,push_cast,seval]
  refine ab.pure h127 rfl ?_
  simp(disch:=try exact dI) only[hk,vlR,Option.map_none,Option.getD_none,Option.isSome_none,eM,Val.pv_mk,push_cast,seval]
 ·rw[h2]
  rw[h3,Nat.zero_add] at h127
  have hxo:=hv.2.2.2.2.2.2.2 x (List.mem_of_getElem? h1)
  obtain⟨x1,x2⟩:=x
  rw[Fld.ok_mk] at hxo
  have hcl:=g7 _ x2 (Nat.lt_succ_self _) hxo.2
  obtain⟨y1,y2,y3,y4,y5,y6⟩:=x2
  rw[Val.pv_mk] at hcl
  have hi:¬ (i':Int)<0:=by omega
  simp(disch:=try exact dI) only[Q44,Val.pv_mk,push_cast,seval]
  refine ab.pure h127 rfl ?_
  simp(disch:=try exact dI) only[h1,hk,Fld.pv_mk,Val.pv_mk,push_cast,seval]
  refine ab.pure hcl rfl ?_
  simp(disch:=try exact dI) only[vlR,Option.map_some,Fld.value,Option.getD_some,Option.isSome_some,Val.pv_mk,push_cast,seval]
theorem GY (w:List (List UInt8))(hw:w.length*16<=140737488351232):ak Tryz.prog ap 322 [.list (w.map PV.str)] (.list (w.map PV.str)):=by
 refine ak.intro PP.2 (by simp[PP]) ?_
 cases w with
 | nil=>
   simp(disch:=try exact dI) only[PP,push_cast,seval]
   intro b
   cases b<;>simp(disch:=try exact dI) only[push_cast,seval]
 | cons x r=>
   rw[List.length_cons] at hw
   simp(disch:=try exact dI) only[PP,push_cast,seval]
theorem ut (n:Int)(nm:List UInt8)(nd k m M s:Int)(w:List (List UInt8))(e:List Typ)(f:List TFd)(d:List Val)(hT:ak Tryz.prog ap 318 [(Typ.mk k m M s w e f).pv] (Typ.mk k m M s w e f).pv)(hd:d.length*88<=140737488351232)(hv:∀ v∈d,v.ok) :
  ak Tryz.prog ap 311 [(TFd.mk n nm nd (Typ.mk k m M s w e f) d).pv] (TFd.mk n nm nd (Typ.mk k m M s w e f) d).pv:=by
 simp only[Typ.pv_mk] at hT
 refine ak.intro Rv.2 (by simp[Rv]) ?_
 simp(disch:=try exact dI) only[Rv,TFd.pv_mk,Typ.pv_mk,ag,push_cast,seval]
 refine ab.pure hT rfl ?_
 refine zgZ ?_
 refine am ([]) (fun i:Nat=>[(17,.pv (.int .i64 (i:Int))),(3,.olist 2 6 ((d.take i).map Val.pv))]) (fun _=>[]) (fun i=>i<=d.length) (fun i=>d.length - i) (0) ?_;intro e0 σ0 n0 h0;simp(disch:=try exact dI) only[push_cast,seval] at h0;obtain⟨rfl,rfl,rfl⟩:=h0;refine⟨?_,?_,?_⟩
 ·exact qsZ
 ·omega
 intro i hi
 by_cases hlt:i<d.length
 ·have hltI:(i:Int)<(d.length:Int):=by omega
  obtain⟨x,hx⟩:∃ x,d[i]? = some x:=⟨_,List.getElem?_eq_getElem hlt⟩
  have hc:=g7 _ x (Nat.lt_succ_self _) (hv x (List.mem_of_getElem? hx))
  have hts:=aB hx
  have hlt2:(d.take i).length=i:=by rw[List.length_take];omega
  obtain⟨vk,vn,vs,vt,vl,vf⟩:=x
  simp only[Val.pv_mk] at hc
  simp(disch:=try exact dI) only[hx,Option.map_some,Val.pv_mk,push_cast,seval]
  refine ab.pure hc rfl ?_
  simp(disch:=try exact dI) only[hlt2,push_cast,seval]
  exact⟨i+1,aI (by simp(disch:=try exact dI) only[hts,List.map_append,Val.pv_mk,push_cast,seval]),by omega,by omega⟩
 ·obtain rfl:i=d.length:=by omega
  simp(disch:=try exact dI) only[List.take_length,Int.lt_irrefl,push_cast,seval]
def bw:Nat->Typ->Prop
 | 0,_=>False
 | n+1,.mk k m M s w e f=>w.length*16<=140737488351232/\e.length*104<=140737488351232/\f.length*160<=140737488351232/\(∀ x∈e,bw n x)/\∀ g∈f,g.dflt.length*88<=140737488351232/\(∀ v∈g.dflt,v.ok)/\bw n g.typ
theorem ur:∀ (n:Nat) (t:Typ),bw n t->ak Tryz.prog ap 318 [t.pv] t.pv
 | 0,_,h=>h.elim
 | n+1,.mk k m M s w e f,h=>by
   have ih:=ur n
   simp only[bw] at h
   obtain⟨hw,hel,hfl,he,hf⟩:=h
   have h297:=GY w hw
   refine ak.intro Ru.2 (by simp[Ru]) ?_
   simp(disch:=try exact dI) only[Ru,Typ.pv_mk,push_cast,seval]
   refine am ([]) (fun i:Nat=>[(16,.pv (.int .i64 (i:Int))),(3,.olist 2 7 ((e.take i).map Typ.pv))]) (fun _=>[]) (fun i=>i<=e.length) (fun i=>e.length - i) (0) ?_;intro e0 σ0 n0 h0;simp(disch:=try exact dI) only[push_cast,seval] at h0;obtain⟨rfl,rfl,rfl⟩:=h0;refine⟨?_,?_,?_⟩
   ·exact qsZ
   ·omega
   intro i hi
   by_cases hlt:i<e.length
   ·have hltI:(i:Int)<(e.length:Int):=by omega
    obtain⟨x,hx⟩:∃ x,e[i]? = some x:=⟨_,List.getElem?_eq_getElem hlt⟩
    have hc:=ih x (he x (List.mem_of_getElem? hx))
    have hts:=aB hx
    have hlt2:(e.take i).length=i:=by rw[List.length_take];omega
    obtain⟨k',m',M',s',w',e',f'⟩:=x
    simp only[Typ.pv_mk] at hc
    simp(disch:=try exact dI) only[hx,Option.map_some,Typ.pv_mk,ag,push_cast,seval]
    refine ab.pure hc rfl ?_
    simp(disch:=try exact dI) only[hlt2,push_cast,seval]
    exact⟨i+1,aI (by simp(disch:=try exact dI) only[hts,List.map_append,Typ.pv_mk,push_cast,seval]),by omega,by omega⟩
   obtain rfl:i=e.length:=by omega
   clear hi hlt
   simp(disch:=try exact dI) only[List.take_length,Int.lt_irrefl,push_cast,seval]
   refine am ([]) (fun i:Nat=>[(33,.pv (.int .i64 (i:Int))),(6,.olist 3 11 ((f.take i).map TFd.pv))]) (fun _=>[]) (fun i=>i<=f.length) (fun i=>f.length - i) (0) ?_;intro e0 σ0 n0 h0;simp(disch:=try exact dI) only[push_cast,seval] at h0;obtain⟨rfl,rfl,rfl⟩:=h0;refine⟨?_,?_,?_⟩
   ·exact qsZ
   ·omega
   intro i hi
   by_cases hlt:i<f.length
   ·have hltI:(i:Int)<(f.length:Int):=by omega
    obtain⟨x,hx⟩:∃ x,f[i]? = some x:=⟨_,List.getElem?_eq_getElem hlt⟩
    obtain⟨hdl,hdv,hds⟩:=hf x (List.mem_of_getElem? hx)
    have hts:=aB hx
    have hlt2:(f.take i).length=i:=by rw[List.length_take];omega
    obtain⟨n',nm',nd',⟨k',m',M',s',w',e',f'⟩,d'⟩:=x
    have hc:=ut n' nm' nd' k' m' M' s' w' e' f' d' (ih _ hds) hdl hdv
    simp only[TFd.pv_mk,Typ.pv_mk,ag] at hc
    simp(disch:=try exact dI) only[hx,Option.map_some,TFd.pv_mk,Typ.pv_mk,ag,push_cast,seval]
    refine ab.pure hc rfl ?_
    simp(disch:=try exact dI) only[hlt2,push_cast,seval]
    exact⟨i+1,aI (by simp(disch:=try exact dI) only[hts,List.map_append,TFd.pv_mk,Typ.pv_mk,ag,push_cast,seval]),by omega,by omega⟩
   obtain rfl:i=f.length:=by omega
   clear hi hlt
   simp(disch:=try exact dI) only[List.take_length,Int.lt_irrefl,push_cast,seval]
   refine ab.pure h297 rfl ?_
   exact qsZ
theorem Ol (x:TFd)(name:List UInt8):ak Tryz.prog ap 299 [x.pv,.eptr [.str name] 0 0] (.bool (named name x)):=by
 obtain⟨a,b,c,⟨k,m,n,s,w,e,fs⟩,d⟩:=x
 refine ak.intro Rw.2 (by simp[Rw]) ?_
 simp(disch:=try exact dI) only[Rw,TFd.pv_mk,Typ.pv_mk,named,TFd.name,push_cast,seval]
 exact decide_eq_decide.2 Iff.rfl
theorem om {n:Nat}{k m M s:Int}{w:List (List UInt8)}{e:List Typ}{f:List TFd}(h:bw (n+1) (.mk k m M s w e f)){x:TFd}(hx:x∈f):ak Tryz.prog ap 311 [x.pv] x.pv:=by
 simp only[bw] at h
 obtain⟨h1,h2,h3⟩:=h.2.2.2.2 x hx
 obtain⟨n',nm',nd',⟨k',m',M',s',w',e',f'⟩,d'⟩:=x
 exact ut _ _ _ _ _ _ _ _ _ _ _ (ur n _ h3) h1 h2
def br (t:Typ)(name:List UInt8):Option TFd:=if t.kind=9\/t.kind=10 then t.fields.find? (named name) else none
theorem KO (n:Nat)(t:Typ)(name:List UInt8)(h:bw n t):ak Tryz.prog ap 298 [t.pv,.clo 299 [] [.eptr [.str name] 0 0]] (tfR (br t name)):=by
 cases n with
 | zero=>exact h.elim
 | succ n=>
 obtain⟨k,m,M,s,w,e,f⟩:=t
 have hcl:=fun x hx=>om h (x:=x) hx
 have hfl:f.length<=9000000000000:=by simp only[bw] at h;have:=h.2.2.1;omega
 clear h
 have h147:=BG f 299 [.eptr [.str name] 0 0] (named name) (fun x _=>Ol x name) (by omega)
 refine ak.intro Pl.2 (by simp[Pl]) ?_
 by_cases hk:k=9\/k=10
 ·rw[show br (.mk k m M s w e f) name=f.find? (named name) from if_pos hk]
  rcases bp (p:=named name) f 0 with ⟨h1,h2⟩ | ⟨i,x,h1,h2,h3⟩
  ·rw[h1]
   rw[h2] at h147
   rcases hk with rfl | rfl
   all_goals
    simp(disch:=try exact dI) only[Pl,Typ.pv_mk,push_cast,seval]
    refine ab.pure h147 rfl ?_
    simp(disch:=try exact dI) only[tfR,Option.getD_none,Option.isSome_none,iR,TFd.pv_mk,Typ.pv_mk,ag,push_cast,seval]
  ·rw[h2]
   rw[h3,Nat.zero_add] at h147
   have hc:=hcl x (List.mem_of_getElem? h1)
   obtain⟨x1,x2,x3,⟨y1,y2,y3,y4,y5,y6,y7⟩,x5⟩:=x
   simp only[TFd.pv_mk,Typ.pv_mk,ag] at hc
   have hi:¬ (i:Int)<0:=by omega
   rcases hk with rfl | rfl
   all_goals
    simp(disch:=try exact dI) only[Pl,Typ.pv_mk,push_cast,seval]
    refine ab.pure h147 rfl ?_
    simp(disch:=try exact dI) only[h1,Option.map_some,TFd.pv_mk,Typ.pv_mk,ag,push_cast,seval]
    refine ab.pure hc rfl ?_
    simp(disch:=try exact dI) only[tfR,Option.getD_some,Option.isSome_some,TFd.pv_mk,Typ.pv_mk,ag,push_cast,seval]
 ·rw[show br (.mk k m M s w e f) name=none from if_neg hk]
  have h9:¬ k=9:=by omega
  have h10:¬ k=10:=by omega
  simp(disch:=try exact dI) only[Pl,Typ.pv_mk,tfR,Option.getD_none,Option.isSome_none,iR,TFd.pv_mk,ag,push_cast,seval]
theorem uh (n:Nat)(t:Typ)(name:List UInt8)(h:bw n t):ak Tryz.prog ap 265 [t.pv,.str name] (tfR (br t name)):=by
 have hf:=KO n t name h
 generalize br t name=o at hf ⊢
 obtain⟨k,m,M,s,w,e,f⟩:=t
 simp only[Typ.pv_mk] at hf
 refine ak.intro PR.2 (by simp[PR]) ?_
 cases o with
 | none=>
   simp only[tfR,Option.getD_none,Option.isSome_none,iR,TFd.pv_mk,Typ.pv_mk,ag] at hf ⊢
   simp(disch:=try exact dI) only[PR,Typ.pv_mk,push_cast,seval]
   refine ab.pure hf rfl ?_
   exact qsZ
 | some x=>
   obtain⟨x1,x2,x3,⟨y1,y2,y3,y4,y5,y6,y7⟩,x5⟩:=x
   simp only[tfR,Option.getD_some,Option.isSome_some,TFd.pv_mk,Typ.pv_mk,ag] at hf ⊢
   simp(disch:=try exact dI) only[PR,Typ.pv_mk,push_cast,seval]
   refine ab.pure hf rfl ?_
   exact qsZ
theorem F9 (l:List Val)(g:Nat)(cs:List PV)(q:Val->Bool)(hq:∀ x∈l,ak Tryz.prog ap g (x.pv::cs) (.bool (q x)))(hl:l.length<=9000000000000) :
  ak Tryz.prog ap 297 [.list (l.map Val.pv),.clo g [] cs] (.int .i64 (dt q l 0)):=by
 refine ak.intro Rx.2 (by simp[Rx]) ?_
 simp(disch:=try exact dI) only[Rx,push_cast,seval]
 refine am ([]) (fun m:Nat=>[(8,.pv (.int .i64 (m:Int)))]) (fun m=>[]) (fun m=>m<=l.length/\dt q l 0=dt q (l.drop m) m) (fun m=>l.length - m) (0) ?_;intro e0 σ0 n0 h0;simp(disch:=try exact dI) only[push_cast,seval] at h0;obtain⟨rfl,rfl,rfl⟩:=h0;refine⟨?_,?_,?_⟩
 ·exact qsZ
 ·exact⟨by omega,by simp⟩
 ·rintro m ⟨hm,he⟩
  by_cases hlt:m<l.length
  ·have hltI:(m:Int)<l.length:=by omega
   obtain⟨x,hx⟩:∃ x,l[m]? = some x:=⟨_,List.getElem?_eq_getElem hlt⟩
   have hcall:=hq x (List.mem_of_getElem? hx)
   have hcl:x.pv.cells.length=6:=by cases x;rw[Val.pv_mk];rfl
   have hag:x.pv.isAgg=true:=by cases x;rw[Val.pv_mk];rfl
   simp(disch:=try exact dI) only[hx,hcl,hag,push_cast,seval]
   refine ab.pure hcall (by exact tf (x.pv::cs)) ?_
   cases hqx:q x with
   | true=>
     rw[he,di hx hqx]
     exact qsZ
   | false=>
     rw[b9 hx hqx] at he
     refine zgZ ?_
     exact⟨m+1,aI qsZ,⟨by omega,he⟩,by omega⟩
  ·have hltI:¬ (m:Int)<l.length:=by omega
   rw[he,dj hlt]
   exact qsZ
theorem r7 (l:List Val)(g:Nat)(cs:List PV)(q:Val->Bool)(hq:∀ x∈l,ak Tryz.prog ap g (x.pv::cs) (.bool (q x)))(hl:l.length<=9000000000000) :
  ak Tryz.prog ap 263 [.list (l.map Val.pv),.clo g [] cs] (.bool (l.any q)):=by
 have h94:=F9 l g cs q hq hl
 have hfa:=dz (p:=q) l
 refine ak.intro PS.2 (by simp[PS]) ?_
 rcases bp (p:=q) l 0 with ⟨h1,h2⟩ | ⟨k,x,h1,h2,h3⟩
 ·rw[h2] at h94
  rw[h1] at hfa
  rw[<- hfa]
  simp(disch:=try exact dI) only[PS,push_cast,seval]
  refine ab.pure h94 rfl ?_
  refine zgZ ?_
  exact .refl _
 ·rw[h3] at h94
  rw[h2] at hfa
  rw[<- hfa]
  have hk:(0:Int)<=((0+k:Nat):Int):=by omega
  generalize ((0+k:Nat):Int)=z at *
  simp(disch:=try exact dI) only[PS,push_cast,seval]
  refine ab.pure h94 rfl ?_
  refine zgZ ?_
  exact .refl _
def ji (v:Val):TFd->Bool
 | .mk _ nm nd _ _=>(v.fields.find? (aP nm)).isNone&&!decide (nd=2)
theorem Om (v:Val)(g:TFd)(hv:v.ok)(hk:v.kind=9)(h:v.fields.length<=9000000000000):ak Tryz.prog ap 266 [g.pv,.eptr [v.pv] 0 0] (.bool (ji v g)):=by
 obtain⟨n',nm',nd',⟨k',m',M',s',w',e',f'⟩,d'⟩:=g
 have h52:=GL v nm' hv hk h
 simp only[ji]
 generalize v.fields.find? (aP nm')=o at h52 ⊢
 obtain⟨vk,vn,vs,vt,vl,vf⟩:=v
 simp only[Val.pv_mk] at h52
 refine ak.intro Pq.2 (by simp[Pq]) ?_
 cases o with
 | none=>
   simp only[vlR,Option.map_none,Option.getD_none,Option.isSome_none,Option.isNone_none,eM,Val.pv_mk] at h52 ⊢
   by_cases hnd:nd'=2
   ·simp(disch:=try exact dI) only[Pq,Val.pv_mk,TFd.pv_mk,Typ.pv_mk,ag,push_cast,seval]
    refine ab.pure h52 rfl ?_
    simp(disch:=try exact dI) only[hnd,push_cast,seval]
   ·simp(disch:=try exact dI) only[Pq,Val.pv_mk,TFd.pv_mk,Typ.pv_mk,ag,push_cast,seval]
    refine ab.pure h52 rfl ?_
    simp(disch:=try exact dI) only[hnd,push_cast,seval]
 | some x=>
   obtain⟨xn,⟨xk,xi,xs,xt,xl,xf⟩⟩:=x
   simp only[vlR,Option.map_some,Option.getD_some,Option.isSome_some,Option.isNone_some,Fld.value,Val.pv_mk] at h52 ⊢
   simp(disch:=try exact dI) only[Pq,Val.pv_mk,TFd.pv_mk,Typ.pv_mk,ag,push_cast,seval]
   refine ab.pure h52 rfl ?_
   exact qsZ
end Go.Proofs.YtbojpfpliibfbaaGreatDoor
