/- A part of the proof. -/
import Derived.Test.YtbaaokocnegdoaaGreatDoorAgWV
set_option linter.unusedVariables false
set_option linter.unusedSimpArgs false
set_option maxHeartbeats 16000000
set_option maxRecDepth 100000
namespace Go.Proofs.YtbaaokocnegdoaaGreatDoor
open Go Go.Ab
attribute [local irreducible] vc
theorem tv (l:List TFd)(g:Nat)(cs:List PV)(q:TFd->Bool)(hq:∀ x∈l,ae Tryz.prog au g (x.pv::cs) (.bool (q x)))(hl:l.length<=1000000000) :
  ae Tryz.prog au 147 [.list (l.map TFd.pv),.clo g [] cs] (.int .i64 (gq q l 0)):=by
 refine ae.intro KJ.2 (by simp[KJ]) ?_
 simp(disch:=try exact dI) only[KJ,push_cast,seval]
 refine aC ([]) (fun m:Nat=>[(8,.pv (.int .i64 (m:Int)))]) (fun m=>[]) (fun m=>m<=l.length/\gq q l 0=gq q (l.drop m) m) (fun m=>l.length - m) (0) ?_;intro e0 σ0 n0 h0;simp(disch:=try exact dI) only[push_cast,seval] at h0;obtain⟨rfl,rfl,rfl⟩:=h0;refine⟨?_,?_,?_⟩
 ·exact qsZ
 ·exact⟨by omega,by simp⟩
 ·rintro m ⟨hm,he⟩
  by_cases hlt:m<l.length
  ·have hltI:(m:Int)<l.length:=by omega
   obtain⟨x,hx⟩:∃ x,l[m]? = some x:=⟨_,List.getElem?_eq_getElem hlt⟩
   have hcall:=hq x (List.mem_of_getElem? hx)
   simp(disch:=try exact dI) only[hx,TFd.cells_len,TFd.isAgg,push_cast,seval]
   refine ab.pure hcall (by exact pA (x.pv::cs)) ?_
   cases hqx:q x with
   | true=>
     rw[he,iR hx hqx]
     exact qsZ
   | false=>
     rw[fB hx hqx] at he
     refine zgZ ?_
     exact⟨m+1,aR qsZ,⟨by omega,he⟩,by omega⟩
  ·have hltI:¬ (m:Int)<l.length:=by omega
   rw[he,iS hlt]
   exact qsZ
theorem np (l:List TFd)(g:Nat)(cs:List PV)(q:TFd->Bool)(hq:∀ x∈l,ae Tryz.prog au g (x.pv::cs) (.bool (q x)))(hl:l.length<=1000000000) :
  ae Tryz.prog au 96 [.list (l.map TFd.pv),.clo g [] cs] (.bool (l.any q)):=by
 have h94:=tv l g cs q hq hl
 have hfa:=gV (p:=q) l
 refine ae.intro Q96.2 (by simp[Q96]) ?_
 rcases cG (p:=q) l 0 with ⟨h1,h2⟩ | ⟨k,x,h1,h2,h3⟩
 ·rw[h2] at h94
  rw[h1] at hfa
  rw[<- hfa]
  simp(disch:=try exact dI) only[Q96,push_cast,seval]
  refine ab.pure h94 rfl ?_
  refine zgZ ?_
  exact .refl _
 ·rw[h3] at h94
  rw[h2] at hfa
  rw[<- hfa]
  have hk:(0:Int)<=((0+k:Nat):Int):=by omega
  generalize ((0+k:Nat):Int)=z at *
  simp(disch:=try exact dI) only[Q96,push_cast,seval]
  refine ab.pure h94 rfl ?_
  refine zgZ ?_
  exact .refl _
def zq (f:TFd):Bool:=decide (f.typ.kind<1)||decide (7<f.typ.kind)
theorem P9 (f:TFd):ae Tryz.prog au 97 [f.pv] (.bool (zq f)):=by
 obtain⟨a,b,c,⟨k,m,n,s,w,e,fs⟩,d⟩:=f
 refine ae.intro Q97.2 (by simp[Q97]) ?_
 simp only[zq,TFd.typ,Typ.kind]
 by_cases h1:k<1
 ·simp(disch:=try exact dI) only[Q97,TFd.pv_mk,Typ.pv_mk,push_cast,seval]
  simp[h1]
 ·by_cases h2:7<k
  ·simp(disch:=try exact dI) only[Q97,TFd.pv_mk,Typ.pv_mk,push_cast,seval]
   simp[h1,h2]
  ·simp(disch:=try exact dI) only[Q97,TFd.pv_mk,Typ.pv_mk,push_cast,seval]
   simp[h1,h2]
def tD:Typ->Bool
 | .mk k _ _ _ _ _ f=>decide (k=9)&&(decide (0<f.length)&&!(f.any zq))
theorem PR (t:Typ)(h:t.fields.length<=1000000):ae Tryz.prog au 49 [t.pv] (.bool (tD t)):=by
 obtain⟨k,m,n,s,w,e,f⟩:=t
 simp only[Typ.fields] at h
 have h64:=np f 97 [] zq (fun x _=>P9 x) (by omega)
 refine ae.intro Q49.2 (by simp[Q49]) ?_
 simp only[tD]
 by_cases h1:k=9
 ·by_cases h2:0<f.length
  ·have h2I:(0:Int)<f.length:=by omega
   simp(disch:=try exact dI) only[Q49,Typ.pv_mk,h1,push_cast,seval]
   refine ab.pure h64 rfl ?_
   exact qsZ
  ·have h2I:¬ (0:Int)<f.length:=by omega
   simp(disch:=try exact dI) only[Q49,Typ.pv_mk,h1,push_cast,seval]
 ·simp(disch:=try exact dI) only[Q49,Typ.pv_mk,h1,push_cast,seval]
theorem rX (rec:Typ->Typ)(f:TFd):(cg rec f).typ=rec f.typ:=by
 obtain⟨a,b,c,t,d⟩:=f;rfl
theorem g7:∀ (n:Nat) (v:Val),SizeOf.sizeOf v<n->v.ok->ae Tryz.prog au 58 [v.pv] v.pv:=by
 intro n
 induction n with
 | zero=>intro v h;omega
 | succ n ih=>
 intro v hn hv
 obtain⟨k,i,s,t,l,f⟩:=v
 rw[Val.ok_mk] at hv
 obtain⟨h1,h2,h3,h4,h5,h7,h6,h8⟩:=hv
 simp only[Val.mk.sizeOf_spec] at hn
 have hl:∀ x∈l,ae Tryz.prog au 58 [x.pv] x.pv:=fun x hx=>ih x (by have:=List.sizeOf_lt_of_mem hx;omega) (h7 x hx)
 have hf:∀ a v,Fld.mk a v∈f->ae Tryz.prog au 58 [v.pv] v.pv:=fun a v hx=>ih v (by have:=List.sizeOf_lt_of_mem hx;simp only[Fld.mk.sizeOf_spec] at this;omega) (by have:=h8 _ hx;rw[Fld.ok_mk] at this;exact this.2)
 refine ae.intro N4.2 (by simp[N4]) ?_
 simp(disch:=try exact dI) only[N4,Val.pv_mk,push_cast,seval]
 refine aC ([(3,5,31,6)]) (fun m:Nat=>[(14,.pv (.int .i64 (m:Int)))]) (fun m=>[(1,.cells 31 true [.pv (.int .i64 k),.pv (.int .i64 i),.pv (.int .i64 s),.pv (.str t),.olist 2 6 ((l.take m).map Val.pv),.pv .nils])]) (fun m=>m<=l.length) (fun m=>l.length - m) (0) ?_;intro e0 σ0 n0 h0;simp(disch:=try exact dI) only[push_cast,seval] at h0;obtain⟨rfl,rfl,rfl⟩:=h0;refine⟨?_,?_,?_⟩
 ·exact qsZ
 ·omega
 ·intro m hm
  by_cases hlt:m<l.length
  ·have hltI:(m:Int)<l.length:=by omega
   obtain⟨x,hx⟩:∃ x,l[m]? = some x:=⟨_,List.getElem?_eq_getElem hlt⟩
   have hts:=aG hx
   have hlt2:(l.take m).length=m:=by rw[List.length_take];omega
   have hcall:=hl x (List.mem_of_getElem? hx)
   obtain⟨w1,w2,w3,w4,w5,w6⟩:=x
   rw[Val.pv_mk] at hcall
   simp(disch:=try exact dI) only[hx,Val.pv_mk,push_cast,seval]
   refine ag hcall rfl ?_
   simp(disch:=try exact dI) only[hlt2,push_cast,seval]
   exact⟨m+1,aR (by simp(disch:=try exact dI) only[hts,List.map_append,Val.pv_mk,push_cast,seval]),by omega,by omega⟩
  ·have hltI:¬ (m:Int)<l.length:=by omega
   have hle:l.take m=l:=List.take_of_length_le (by omega)
   simp(disch:=try exact dI) only[hle,push_cast,seval]
   refine aC ([(3,6,83,7)]) (fun m:Nat=>[(29,.pv (.int .i64 (m:Int)))]) (fun m=>[(1,.cells 31 true [.pv (.int .i64 k),.pv (.int .i64 i),.pv (.int .i64 s),.pv (.str t),.olist 2 6 (l.map Val.pv),.olist 3 7 ((f.take m).map Fld.pv)])]) (fun m=>m<=f.length) (fun m=>f.length - m) (0) ?_;intro e0 σ0 n0 h0;simp(disch:=try exact dI) only[push_cast,seval] at h0;obtain⟨rfl,rfl,rfl⟩:=h0;refine⟨?_,?_,?_⟩
   ·exact qsZ
   ·omega
   ·intro m hm
    by_cases hlt:m<f.length
    ·have hltI:(m:Int)<f.length:=by omega
     obtain⟨⟨a,v⟩,hx⟩:∃ x,f[m]? = some x:=⟨_,List.getElem?_eq_getElem hlt⟩
     have hts:=aG hx
     have hlt2:(f.take m).length=m:=by rw[List.length_take];omega
     have hcall:=hf a v (List.mem_of_getElem? hx)
     obtain⟨w1,w2,w3,w4,w5,w6⟩:=v
     rw[Val.pv_mk] at hcall
     simp(disch:=try exact dI) only[hx,Fld.pv_mk,Val.pv_mk,push_cast,seval]
     refine ag hcall rfl ?_
     simp(disch:=try exact dI) only[hlt2,push_cast,seval]
     exact⟨m+1,aR (by simp(disch:=try exact dI) only[hts,List.map_append,Fld.pv_mk,Val.pv_mk,push_cast,seval]),by omega,by omega⟩
    ·have hltI:¬ (m:Int)<f.length:=by omega
     have hle:f.take m=f:=List.take_of_length_le (by omega)
     simp(disch:=try exact dI) only[hle,push_cast,seval]
def named (name:List UInt8)(x:TFd):Bool:=decide (x.name=name)
def aU (name:List UInt8)(x:Fld):Bool:=decide (x.name=name)
def fO:TFd:=.mk 0 [] 0 (.mk 0 0 0 0 [] [] []) []
def aJ:Val:=.mk 0 0 0 [] [] []
def tfR (o:Option TFd):PV:=.tup [(o.getD fO).pv,.bool o.isSome]
def vlR (o:Option Val):PV:=.tup [(o.getD aJ).pv,.bool o.isSome]
theorem Qs (x:TFd)(name:List UInt8):ae Tryz.prog au 181 [x.pv,.eptr [.str name] 0 0] (.bool (named name x)):=by
 obtain⟨a,b,c,⟨k,m,n,s,w,e,fs⟩,d⟩:=x
 refine ae.intro Rh.2 (by simp[Rh]) ?_
 simp(disch:=try exact dI) only[Rh,TFd.pv_mk,Typ.pv_mk,named,TFd.name,push_cast,seval]
 exact decide_eq_decide.2 Iff.rfl
theorem rI (t:Typ)(name:List UInt8)(h:t.fields.length<=1000000):ae Tryz.prog au 134 [t.pv,.str name] (tfR (t.fields.find? (named name))):=by
 obtain⟨k,m,n,s,w,e,f⟩:=t
 simp only[Typ.fields] at h ⊢
 have h94:=tv f 181 [.eptr [.str name] 0 0] (named name) (fun x _=>Qs x name) (by omega)
 refine ae.intro Ou.2 (by simp[Ou]) ?_
 rcases cG (p:=named name) f 0 with ⟨h1,h2⟩ | ⟨i,x,h1,h2,h3⟩
 ·rw[h1]
  rw[h2] at h94
  simp(disch:=try exact dI) only[Ou,Typ.pv_mk,push_cast,seval]
  refine ab.pure h94 rfl ?_
  simp(disch:=try exact dI) only[tfR,Option.getD_none,Option.isSome_none,fO,TFd.pv_mk,Typ.pv_mk,push_cast,seval]
 ·rw[h2]
  rw[h3,Nat.zero_add] at h94
  obtain⟨x1,x2,x3,⟨y1,y2,y3,y4,y5,y6,y7⟩,x5⟩:=x
  have hi:¬ (i:Int)<0:=by omega
  simp(disch:=try exact dI) only[Ou,Typ.pv_mk,push_cast,seval]
  refine ab.pure h94 rfl ?_
  simp(disch:=try exact dI) only[h1,tfR,Option.getD_some,Option.isSome_some,TFd.pv_mk,Typ.pv_mk,push_cast,seval]
theorem rJ (t:Typ)(name:List UInt8)(h:t.fields.length<=1000000):ae Tryz.prog au 65 [t.pv,.str name] (tfR (t.fields.find? (named name))):=by
 obtain⟨k,m,n,s,w,e,f⟩:=t
 simp only[Typ.fields] at h ⊢
 refine ae.intro Q65.2 (by simp[Q65]) ?_
 generalize hR:f.find? (named name)=R
 simp(disch:=try exact dI) only[Q65,Typ.pv_mk,push_cast,seval]
 refine aC ([]) (fun m:Nat=>[(6,.pv (.int .i64 (m:Int)))]) (fun m=>[]) (fun m=>m<=f.length/\R=(f.drop m).find? (named name)) (fun m=>f.length - m) (0) ?_;intro e0 σ0 n0 h0;simp(disch:=try exact dI) only[push_cast,seval] at h0;obtain⟨rfl,rfl,rfl⟩:=h0;refine⟨?_,?_,?_⟩
 ·exact qsZ
 ·exact⟨by omega,hR.symm⟩
 ·rintro i ⟨hi,he⟩
  by_cases hlt:i<f.length
  ·have hltI:(i:Int)<f.length:=by omega
   obtain⟨x,hx⟩:∃ x,f[i]? = some x:=⟨_,List.getElem?_eq_getElem hlt⟩
   have hhit:=vH (p:=named name) hx
   have hmiss:=qA (p:=named name) hx
   obtain⟨x1,x2,x3,⟨y1,y2,y3,y4,y5,y6,y7⟩,x5⟩:=x
   simp only[named,TFd.name] at hhit hmiss
   by_cases hn:x2=name
   ·rw[he]
    rw[hhit (decide_eq_true hn)]
    simp(disch:=try exact dI) only[hx,hn,tfR,Option.getD_some,Option.isSome_some,TFd.pv_mk,Typ.pv_mk,push_cast,seval]
   ·simp(disch:=try exact dI) only[hx,hn,TFd.pv_mk,Typ.pv_mk,push_cast,seval]
    exact⟨i+1,aR qsZ,⟨by omega,by rw[he];exact hmiss (decide_eq_false hn)⟩,by omega⟩
  ·have hltI:¬ (i:Int)<f.length:=by omega
   rw[he,vI hlt]
   simp(disch:=try exact dI) only[tfR,Option.getD_none,Option.isSome_none,fO,TFd.pv_mk,Typ.pv_mk,push_cast,seval]
theorem Nc (v:Val)(name:List UInt8)(h:v.fields.length<=1000000):ae Tryz.prog au 117 [v.pv,.str name] (vlR ((v.fields.find? (aU name)).map Fld.value)):=by
 obtain⟨k,i,s,t,l,f⟩:=v
 simp only[Val.fields] at h ⊢
 refine ae.intro TA.2 (by simp[TA]) ?_
 generalize hR:f.find? (aU name)=R
 simp(disch:=try exact dI) only[TA,Val.pv_mk,push_cast,seval]
 refine aC ([]) (fun m:Nat=>[(6,.pv (.int .i64 (m:Int)))]) (fun m=>[]) (fun m=>m<=f.length/\R=(f.drop m).find? (aU name)) (fun m=>f.length - m) (0) ?_;intro e0 σ0 n0 h0;simp(disch:=try exact dI) only[push_cast,seval] at h0;obtain⟨rfl,rfl,rfl⟩:=h0;refine⟨?_,?_,?_⟩
 ·exact qsZ
 ·exact⟨by omega,hR.symm⟩
 ·rintro i ⟨hi,he⟩
  by_cases hlt:i<f.length
  ·have hltI:(i:Int)<f.length:=by omega
   obtain⟨x,hx⟩:∃ x,f[i]? = some x:=⟨_,List.getElem?_eq_getElem hlt⟩
   have hhit:=vH (p:=aU name) hx
   have hmiss:=qA (p:=aU name) hx
   obtain⟨x1,⟨y1,y2,y3,y4,y5,y6⟩⟩:=x
   simp only[aU,Fld.name] at hhit hmiss
   by_cases hn:x1=name
   ·rw[he]
    rw[hhit (decide_eq_true hn)]
    simp(disch:=try exact dI) only[hx,hn,vlR,Option.map_some,Fld.value,Option.getD_some,Option.isSome_some,Fld.pv_mk,Val.pv_mk,push_cast,seval]
   ·simp(disch:=try exact dI) only[hx,hn,Fld.pv_mk,Val.pv_mk,push_cast,seval]
    exact⟨i+1,aR qsZ,⟨by omega,by rw[he];exact hmiss (decide_eq_false hn)⟩,by omega⟩
  ·have hltI:¬ (i:Int)<f.length:=by omega
   rw[he,vI hlt]
   simp(disch:=try exact dI) only[vlR,Option.map_none,Option.getD_none,Option.isSome_none,aJ,Val.pv_mk,push_cast,seval]
theorem Sm (l:List (List UInt8))(s:List UInt8)(h:l.length<=1000000):ae Tryz.prog au 62 [.list (l.map PV.str),.str s] (.bool (l.any fun x=>decide (x=s))):=by
 refine ae.intro Q62.2 (by simp[Q62]) ?_
 generalize hR:(l.any fun x=>decide (x=s))=R
 simp(disch:=try exact dI) only[Q62,push_cast,seval]
 refine aC ([]) (fun m:Nat=>[(5,.pv (.int .i64 (m:Int)))]) (fun m=>[]) (fun m=>m<=l.length/\R=(l.drop m).any fun x=>decide (x=s)) (fun m=>l.length - m) (0) ?_;intro e0 σ0 n0 h0;simp(disch:=try exact dI) only[push_cast,seval] at h0;obtain⟨rfl,rfl,rfl⟩:=h0;refine⟨?_,?_,?_⟩
 ·exact qsZ
 ·exact⟨by omega,hR.symm⟩
 ·rintro i ⟨hi,he⟩
  by_cases hlt:i<l.length
  ·have hltI:(i:Int)<l.length:=by omega
   obtain⟨x,hx⟩:∃ x,l[i]? = some x:=⟨_,List.getElem?_eq_getElem hlt⟩
   by_cases hn:x=s
   ·rw[he,NJ hx (by simp[hn])]
    simp(disch:=try exact dI) only[hx,hn,push_cast,seval]
   ·rw[Jm hx (by simp[hn])] at he
    simp(disch:=try exact dI) only[hx,hn,push_cast,seval]
    exact⟨i+1,aR qsZ,⟨by omega,he⟩,by omega⟩
  ·have hltI:¬ (i:Int)<l.length:=by omega
   rw[he,NK hlt]
   exact qsZ
theorem Il (l:List (List UInt8))(s:List UInt8)(h:l.length<=1000000):ae Tryz.prog au 179 [.list (l.map PV.str),.str s] (.int .i64 (gq (fun x=>decide (x=s)) l 0)):=by
 refine ae.intro Tv.2 (by simp[Tv]) ?_
 generalize hR:gq (fun x=>decide (x=s)) l 0=R
 simp(disch:=try exact dI) only[Tv,push_cast,seval]
 refine aC ([]) (fun m:Nat=>[(8,.pv (.int .i64 (m:Int)))]) (fun m=>[]) (fun m=>m<=l.length/\R=gq (fun x=>decide (x=s)) (l.drop m) m) (fun m=>l.length - m) (0) ?_;intro e0 σ0 n0 h0;simp(disch:=try exact dI) only[push_cast,seval] at h0;obtain⟨rfl,rfl,rfl⟩:=h0;refine⟨?_,?_,?_⟩
 ·exact qsZ
 ·exact⟨by omega,hR.symm⟩
 ·rintro i ⟨hi,he⟩
  by_cases hlt:i<l.length
  ·have hltI:(i:Int)<l.length:=by omega
   obtain⟨x,hx⟩:∃ x,l[i]? = some x:=⟨_,List.getElem?_eq_getElem hlt⟩
   by_cases hn:s=x
   ·rw[he,iR hx (by simp[hn])]
    simp(disch:=try exact dI) only[hx,hn,push_cast,seval]
   ·rw[fB hx (by simp;exact fun h=>hn h.symm)] at he
    simp(disch:=try exact dI) only[hx,hn,push_cast,seval]
    exact⟨i+1,aR qsZ,⟨by omega,he⟩,by omega⟩
  ·have hltI:¬ (i:Int)<l.length:=by omega
   rw[he,iS hlt]
   exact qsZ
theorem nl (l:List (List UInt8))(s:List UInt8)(h:l.length<=1000000):ae Tryz.prog au 132 [.list (l.map PV.str),.str s] (.bool (l.any fun x=>decide (x=s))):=by
 have h111:=Il l s h
 have hfa:=gV (p:=fun x=>decide (x=s)) l
 refine ae.intro RH.2 (by simp[RH]) ?_
 rcases cG (p:=fun x=>decide (x=s)) l 0 with ⟨h1,h2⟩ | ⟨k,x,h1,h2,h3⟩
 ·rw[h2] at h111
  rw[h1] at hfa
  rw[<- hfa]
  simp(disch:=try exact dI) only[RH,push_cast,seval]
  refine ab.pure h111 rfl ?_
  refine zgZ ?_
  exact .refl _
 ·rw[h3] at h111
  rw[h2] at hfa
  rw[<- hfa]
  have hk:(0:Int)<=((0+k:Nat):Int):=by omega
  generalize ((0+k:Nat):Int)=z at *
  simp(disch:=try exact dI) only[RH,push_cast,seval]
  refine ab.pure h111 rfl ?_
  refine zgZ ?_
  exact .refl _
theorem Qr (x:Fld)(name:List UInt8):ae Tryz.prog au 152 [x.pv,.eptr [.str name] 0 0] (.bool (aU name x)):=by
 obtain⟨a,⟨k,m,n,s,w,e⟩⟩:=x
 refine ae.intro Rj.2 (by simp[Rj]) ?_
 simp(disch:=try exact dI) only[Rj,Fld.pv_mk,Val.pv_mk,aU,Fld.name,push_cast,seval]
 exact decide_eq_decide.2 Iff.rfl
theorem Ik (l:List Fld)(g:Nat)(cs:List PV)(q:Fld->Bool)(hq:∀ x∈l,ae Tryz.prog au g (x.pv::cs) (.bool (q x)))(hl:l.length<=1000000000) :
  ae Tryz.prog au 151 [.list (l.map Fld.pv),.clo g [] cs] (.int .i64 (gq q l 0)):=by
 refine ae.intro KI.2 (by simp[KI]) ?_
 simp(disch:=try exact dI) only[KI,push_cast,seval]
 refine aC ([]) (fun m:Nat=>[(8,.pv (.int .i64 (m:Int)))]) (fun m=>[]) (fun m=>m<=l.length/\gq q l 0=gq q (l.drop m) m) (fun m=>l.length - m) (0) ?_;intro e0 σ0 n0 h0;simp(disch:=try exact dI) only[push_cast,seval] at h0;obtain⟨rfl,rfl,rfl⟩:=h0;refine⟨?_,?_,?_⟩
 ·exact qsZ
 ·exact⟨by omega,by simp⟩
 ·rintro m ⟨hm,he⟩
  by_cases hlt:m<l.length
  ·have hltI:(m:Int)<l.length:=by omega
   obtain⟨x,hx⟩:∃ x,l[m]? = some x:=⟨_,List.getElem?_eq_getElem hlt⟩
   have hcall:=hq x (List.mem_of_getElem? hx)
   simp(disch:=try exact dI) only[hx,Fld.cells_len,Fld.isAgg,push_cast,seval]
   refine ab.pure hcall (by exact pA (x.pv::cs)) ?_
   cases hqx:q x with
   | true=>
     rw[he,iR hx hqx]
     exact qsZ
   | false=>
     rw[fB hx hqx] at he
     refine zgZ ?_
     exact⟨m+1,aR qsZ,⟨by omega,he⟩,by omega⟩
  ·have hltI:¬ (m:Int)<l.length:=by omega
   rw[he,iS hlt]
   exact qsZ
theorem Ij (v:Val)(name:List UInt8)(h:v.fields.length<=1000000):ae Tryz.prog au 100 [v.pv,.str name] (.int .i64 (gq (aU name) v.fields 0)):=by
 obtain⟨k,i,s,t,l,f⟩:=v
 simp only[Val.fields] at h ⊢
 have h117:=Ik f 152 [.eptr [.str name] 0 0] (aU name) (fun x _=>Qr x name) (by omega)
 refine ae.intro Ro.2 (by simp[Ro]) ?_
 simp(disch:=try exact dI) only[Ro,Val.pv_mk,push_cast,seval]
 refine ab.pure h117 rfl ?_
 exact qsZ
theorem oh (v:Val)(name:List UInt8)(hv:v.ok)(hk:v.kind=9)(h:v.fields.length<=1000000):ae Tryz.prog au 52 [v.pv,.str name] (vlR ((v.fields.find? (aU name)).map Fld.value)):=by
 have h127:=Ij v name h
 obtain⟨k,i,s,t,l,f⟩:=v
 rw[Val.ok_mk] at hv
 simp only[Val.fields,Val.kind] at h hk h127 ⊢
 rw[Val.pv_mk] at h127
 refine ae.intro Q52.2 (by simp[Q52]) ?_
 rcases cG (p:=aU name) f 0 with ⟨h1,h2⟩ | ⟨i',x,h1,h2,h3⟩
 ·rw[h1]
  rw[h2] at h127
  simp(disch:=try exact dI) only[Q52,Val.pv_mk,push_cast,seval]
  refine ab.pure h127 rfl ?_
  simp(disch:=try exact dI) only[hk,vlR,Option.map_none,Option.getD_none,Option.isSome_none,aJ,Val.pv_mk,push_cast,seval]
 ·rw[h2]
  rw[h3,Nat.zero_add] at h127
  have hxo:=hv.2.2.2.2.2.2.2 x (List.mem_of_getElem? h1)
  obtain⟨x1,x2⟩:=x
  rw[Fld.ok_mk] at hxo
  have hcl:=g7 _ x2 (Nat.lt_succ_self _) hxo.2
  obtain⟨y1,y2,y3,y4,y5,y6⟩:=x2
  rw[Val.pv_mk] at hcl
  have hi:¬ (i':Int)<0:=by omega
  simp(disch:=try exact dI) only[Q52,Val.pv_mk,push_cast,seval]
  refine ab.pure h127 rfl ?_
  simp(disch:=try exact dI) only[h1,hk,Fld.pv_mk,Val.pv_mk,push_cast,seval]
  refine ab.pure hcl rfl ?_
  simp(disch:=try exact dI) only[vlR,Option.map_some,Fld.value,Option.getD_some,Option.isSome_some,Val.pv_mk,push_cast,seval]
def stepM:Bool->List Mis->Mis->Bool×List Mis
 | true,l,_=>(true,l)
 | false,l,m=>(!decide (l.length+1<64),l++[m])
end Go.Proofs.YtbaaokocnegdoaaGreatDoor
