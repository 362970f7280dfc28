/- A part of the proof. -/
import Derived.Test.YtbaaokocnegdoaaGreatDoorDeVC27
set_option linter.unusedVariables false
set_option linter.unusedSimpArgs false
set_option maxHeartbeats 16000000
set_option maxRecDepth 100000
namespace Go.Proofs.YtbaaokocnegdoaaGreatDoor
open Go Go.Ab
theorem ix:∀ (n:Nat) (v:Val),SizeOf.sizeOf v<n->v.ok->ak Tryz.prog aq 58 [v.pv] v.pv:=by
 intro n
 induction n with
 | zero=>intro v h;omega
 | succ n ih=>
 intro v hn hv
 obtain⟨k,i,s,t,l,f⟩:=v
 rw[Val.ok_mk] at hv
 obtain⟨h1,h2,h3,h4,h5,h7,h6,h8⟩:=hv
 simp only[Val.mk.sizeOf_spec] at hn
 have hl:∀ x∈l,ak Tryz.prog aq 58 [x.pv] x.pv:=fun x hx=>ih x (by have:=List.sizeOf_lt_of_mem hx;omega) (h7 x hx)
 have hf:∀ a v,Fld.mk a v∈f->ak Tryz.prog aq 58 [v.pv] v.pv:=fun a v hx=>ih v (by have:=List.sizeOf_lt_of_mem hx;simp only[Fld.mk.sizeOf_spec] at this;omega) (by have:=h8 _ hx;rw[Fld.ok_mk] at this;exact this.2)
 refine ak.intro OC.2 (by simp[OC]) ?_
 simp(disch:=try exact dI) only[OC,Val.pv_mk,push_cast,seval]
 refine ap ([(3,5,31,6)]) (fun m:Nat=>[(14,.pv (.int .i64 (m:Int)))]) (fun m=>[(1,.cells 31 true [.pv (.int .i64 k),.pv (.int .i64 i),.pv (.int .i64 s),.pv (.str t),.olist 2 6 ((l.take m).map Val.pv),.pv .nils])]) (fun m=>m<=l.length) (fun m=>l.length - m) (0) ?_;intro e0 σ0 n0 h0;simp(disch:=try exact dI) only[push_cast,seval] at h0;obtain⟨rfl,rfl,rfl⟩:=h0;refine⟨?_,?_,?_⟩
 ·exact qsZ
 ·omega
 ·intro m hm
  by_cases hlt:m<l.length
  ·have hltI:(m:Int)<l.length:=by omega
   obtain⟨x,hx⟩:∃ x,l[m]? = some x:=⟨_,List.getElem?_eq_getElem hlt⟩
   have hts:=aD hx
   have hlt2:(l.take m).length=m:=by rw[List.length_take];omega
   have hcall:=hl x (List.mem_of_getElem? hx)
   obtain⟨w1,w2,w3,w4,w5,w6⟩:=x
   rw[Val.pv_mk] at hcall
   simp(disch:=try exact dI) only[hx,Val.pv_mk,push_cast,seval]
   refine ae hcall rfl ?_
   simp(disch:=try exact dI) only[hlt2,push_cast,seval]
   exact⟨m+1,aK (by simp(disch:=try exact dI) only[hts,List.map_append,Val.pv_mk,push_cast,seval]),by omega,by omega⟩
  ·have hltI:¬ (m:Int)<l.length:=by omega
   have hle:l.take m=l:=List.take_of_length_le (by omega)
   simp(disch:=try exact dI) only[hle,push_cast,seval]
   refine ap ([(3,6,83,7)]) (fun m:Nat=>[(29,.pv (.int .i64 (m:Int)))]) (fun m=>[(1,.cells 31 true [.pv (.int .i64 k),.pv (.int .i64 i),.pv (.int .i64 s),.pv (.str t),.olist 2 6 (l.map Val.pv),.olist 3 7 ((f.take m).map Fld.pv)])]) (fun m=>m<=f.length) (fun m=>f.length - m) (0) ?_;intro e0 σ0 n0 h0;simp(disch:=try exact dI) only[push_cast,seval] at h0;obtain⟨rfl,rfl,rfl⟩:=h0;refine⟨?_,?_,?_⟩
   ·exact qsZ
   ·omega
   ·intro m hm
    by_cases hlt:m<f.length
    ·have hltI:(m:Int)<f.length:=by omega
     obtain⟨⟨a,v⟩,hx⟩:∃ x,f[m]? = some x:=⟨_,List.getElem?_eq_getElem hlt⟩
     have hts:=aD hx
     have hlt2:(f.take m).length=m:=by rw[List.length_take];omega
     have hcall:=hf a v (List.mem_of_getElem? hx)
     obtain⟨w1,w2,w3,w4,w5,w6⟩:=v
     rw[Val.pv_mk] at hcall
     simp(disch:=try exact dI) only[hx,Fld.pv_mk,Val.pv_mk,push_cast,seval]
     refine ae hcall rfl ?_
     simp(disch:=try exact dI) only[hlt2,push_cast,seval]
     exact⟨m+1,aK (by simp(disch:=try exact dI) only[hts,List.map_append,Fld.pv_mk,Val.pv_mk,push_cast,seval]),by omega,by omega⟩
    ·have hltI:¬ (m:Int)<f.length:=by omega
     have hle:f.take m=f:=List.take_of_length_le (by omega)
     simp(disch:=try exact dI) only[hle,push_cast,seval]
attribute [local irreducible] vc
def named (name:List UInt8)(x:TFd):Bool:=decide (x.name=name)
def cJ (name:List UInt8)(x:Fld):Bool:=decide (x.name=name)
def mA:TFd:=.mk 0 [] 0 (.mk 0 0 0 0 [] [] []) []
def aI:Val:=.mk 0 0 0 [] [] []
def tfR (o:Option TFd):PV:=.tup [(o.getD mA).pv,.bool o.isSome]
def vlR (o:Option Val):PV:=.tup [(o.getD aI).pv,.bool o.isSome]
theorem S1 (l:List (List UInt8))(s:List UInt8)(h:l.length<=1000000):ak Tryz.prog aq 62 [.list (l.map PV.str),.str s] (.bool (l.any fun x=>decide (x=s))):=by
 refine ak.intro Q62.2 (by simp[Q62]) ?_
 generalize hR:(l.any fun x=>decide (x=s))=R
 simp(disch:=try exact dI) only[Q62,push_cast,seval]
 refine ap ([]) (fun m:Nat=>[(5,.pv (.int .i64 (m:Int)))]) (fun m=>[]) (fun m=>m<=l.length/\R=(l.drop m).any fun x=>decide (x=s)) (fun m=>l.length - m) (0) ?_;intro e0 σ0 n0 h0;simp(disch:=try exact dI) only[push_cast,seval] at h0;obtain⟨rfl,rfl,rfl⟩:=h0;refine⟨?_,?_,?_⟩
 ·exact qsZ
 ·exact⟨by omega,hR.symm⟩
 ·rintro i ⟨hi,he⟩
  by_cases hlt:i<l.length
  ·have hltI:(i:Int)<l.length:=by omega
   obtain⟨x,hx⟩:∃ x,l[i]? = some x:=⟨_,List.getElem?_eq_getElem hlt⟩
   by_cases hn:x=s
   ·rw[he,N9 hx (by simp[hn])]
    simp(disch:=try exact dI) only[hx,hn,push_cast,seval]
   ·rw[JP hx (by simp[hn])] at he
    simp(disch:=try exact dI) only[hx,hn,push_cast,seval]
    exact⟨i+1,aK qsZ,⟨by omega,he⟩,by omega⟩
  ·have hltI:¬ (i:Int)<l.length:=by omega
   rw[he,Oa hlt]
   exact qsZ
theorem II (l:List (List UInt8))(s:List UInt8)(h:l.length<=1000000):ak Tryz.prog aq 179 [.list (l.map PV.str),.str s] (.int .i64 (eZ (fun x=>decide (x=s)) l 0)):=by
 refine ak.intro Uc.2 (by simp[Uc]) ?_
 generalize hR:eZ (fun x=>decide (x=s)) l 0=R
 simp(disch:=try exact dI) only[Uc,push_cast,seval]
 refine ap ([]) (fun m:Nat=>[(8,.pv (.int .i64 (m:Int)))]) (fun m=>[]) (fun m=>m<=l.length/\R=eZ (fun x=>decide (x=s)) (l.drop m) m) (fun m=>l.length - m) (0) ?_;intro e0 σ0 n0 h0;simp(disch:=try exact dI) only[push_cast,seval] at h0;obtain⟨rfl,rfl,rfl⟩:=h0;refine⟨?_,?_,?_⟩
 ·exact qsZ
 ·exact⟨by omega,hR.symm⟩
 ·rintro i ⟨hi,he⟩
  by_cases hlt:i<l.length
  ·have hltI:(i:Int)<l.length:=by omega
   obtain⟨x,hx⟩:∃ x,l[i]? = some x:=⟨_,List.getElem?_eq_getElem hlt⟩
   by_cases hn:s=x
   ·rw[he,fq hx (by simp[hn])]
    simp(disch:=try exact dI) only[hx,hn,push_cast,seval]
   ·rw[dG hx (by simp;exact fun h=>hn h.symm)] at he
    simp(disch:=try exact dI) only[hx,hn,push_cast,seval]
    exact⟨i+1,aK qsZ,⟨by omega,he⟩,by omega⟩
  ·have hltI:¬ (i:Int)<l.length:=by omega
   rw[he,ft hlt]
   exact qsZ
theorem nr (l:List (List UInt8))(s:List UInt8)(h:l.length<=1000000):ak Tryz.prog aq 132 [.list (l.map PV.str),.str s] (.bool (l.any fun x=>decide (x=s))):=by
 have h111:=II l s h
 have hfa:=io (p:=fun x=>decide (x=s)) l
 refine ak.intro Sk.2 (by simp[Sk]) ?_
 rcases ck (p:=fun x=>decide (x=s)) l 0 with ⟨h1,h2⟩ | ⟨k,x,h1,h2,h3⟩
 ·rw[h2] at h111
  rw[h1] at hfa
  rw[<- hfa]
  simp(disch:=try exact dI) only[Sk,push_cast,seval]
  refine ab.pure h111 rfl ?_
  refine zgZ ?_
  exact .refl _
 ·rw[h3] at h111
  rw[h2] at hfa
  rw[<- hfa]
  have hk:(0:Int)<=((0+k:Nat):Int):=by omega
  generalize ((0+k:Nat):Int)=z at *
  simp(disch:=try exact dI) only[Sk,push_cast,seval]
  refine ab.pure h111 rfl ?_
  refine zgZ ?_
  exact .refl _
theorem Q7 (x:Fld)(name:List UInt8):ak Tryz.prog aq 152 [x.pv,.eptr [.str name] 0 0] (.bool (cJ name x)):=by
 obtain⟨a,⟨k,m,n,s,w,e⟩⟩:=x
 refine ak.intro RW.2 (by simp[RW]) ?_
 simp(disch:=try exact dI) only[RW,Fld.pv_mk,Val.pv_mk,cJ,Fld.name,push_cast,seval]
 exact decide_eq_decide.2 Iff.rfl
theorem IH (l:List Fld)(g:Nat)(cs:List PV)(q:Fld->Bool)(hq:∀ x∈l,ak Tryz.prog aq g (x.pv::cs) (.bool (q x)))(hl:l.length<=1000000000) :
  ak Tryz.prog aq 151 [.list (l.map Fld.pv),.clo g [] cs] (.int .i64 (eZ q l 0)):=by
 refine ak.intro K2.2 (by simp[K2]) ?_
 simp(disch:=try exact dI) only[K2,push_cast,seval]
 refine ap ([]) (fun m:Nat=>[(8,.pv (.int .i64 (m:Int)))]) (fun m=>[]) (fun m=>m<=l.length/\eZ q l 0=eZ q (l.drop m) m) (fun m=>l.length - m) (0) ?_;intro e0 σ0 n0 h0;simp(disch:=try exact dI) only[push_cast,seval] at h0;obtain⟨rfl,rfl,rfl⟩:=h0;refine⟨?_,?_,?_⟩
 ·exact qsZ
 ·exact⟨by omega,by simp⟩
 ·rintro m ⟨hm,he⟩
  by_cases hlt:m<l.length
  ·have hltI:(m:Int)<l.length:=by omega
   obtain⟨x,hx⟩:∃ x,l[m]? = some x:=⟨_,List.getElem?_eq_getElem hlt⟩
   have hcall:=hq x (List.mem_of_getElem? hx)
   simp(disch:=try exact dI) only[hx,Fld.cells_len,Fld.isAgg,push_cast,seval]
   refine ab.pure hcall (by exact pD (x.pv::cs)) ?_
   cases hqx:q x with
   | true=>
     rw[he,fq hx hqx]
     exact qsZ
   | false=>
     rw[dG hx hqx] at he
     refine zgZ ?_
     exact⟨m+1,aK qsZ,⟨by omega,he⟩,by omega⟩
  ·have hltI:¬ (m:Int)<l.length:=by omega
   rw[he,ft hlt]
   exact qsZ
theorem IG (v:Val)(name:List UInt8)(h:v.fields.length<=1000000):ak Tryz.prog aq 100 [v.pv,.str name] (.int .i64 (eZ (cJ name) v.fields 0)):=by
 obtain⟨k,i,s,t,l,f⟩:=v
 simp only[Val.fields] at h ⊢
 have h117:=IH f 152 [.eptr [.str name] 0 0] (cJ name) (fun x _=>Q7 x name) (by omega)
 refine ak.intro R0.2 (by simp[R0]) ?_
 simp(disch:=try exact dI) only[R0,Val.pv_mk,push_cast,seval]
 refine ab.pure h117 rfl ?_
 exact qsZ
theorem Je (v:Val)(name:List UInt8)(hv:v.ok)(hk:v.kind=9)(h:v.fields.length<=1000000):ak Tryz.prog aq 52 [v.pv,.str name] (vlR ((v.fields.find? (cJ name)).map Fld.value)):=by
 have h127:=IG v name h
 obtain⟨k,i,s,t,l,f⟩:=v
 rw[Val.ok_mk] at hv
 simp only[Val.fields,Val.kind] at h hk h127 ⊢
 rw[Val.pv_mk] at h127
 refine ak.intro Q52.2 (by simp[Q52]) ?_
 rcases ck (p:=cJ name) f 0 with ⟨h1,h2⟩ | ⟨i',x,h1,h2,h3⟩
 ·rw[h1]
  rw[h2] at h127
  simp(disch:=try exact dI) only[Q52,Val.pv_mk,push_cast,seval]
  refine ab.pure h127 rfl ?_
  simp(disch:=try exact dI) only[hk,vlR,Option.map_none,Option.getD_none,Option.isSome_none,aI,Val.pv_mk,push_cast,seval]
 ·rw[h2]
  rw[h3,Nat.zero_add] at h127
  have hxo:=hv.2.2.2.2.2.2.2 x (List.mem_of_getElem? h1)
  obtain⟨x1,x2⟩:=x
  rw[Fld.ok_mk] at hxo
  have hcl:=ix _ x2 (Nat.lt_succ_self _) hxo.2
  obtain⟨y1,y2,y3,y4,y5,y6⟩:=x2
  rw[Val.pv_mk] at hcl
  have hi:¬ (i':Int)<0:=by omega
  simp(disch:=try exact dI) only[Q52,Val.pv_mk,push_cast,seval]
  refine ab.pure h127 rfl ?_
  simp(disch:=try exact dI) only[h1,hk,Fld.pv_mk,Val.pv_mk,push_cast,seval]
  refine ab.pure hcl rfl ?_
  simp(disch:=try exact dI) only[vlR,Option.map_some,Fld.value,Option.getD_some,Option.isSome_some,Val.pv_mk,push_cast,seval]
def stepM:Bool->List Mis->Mis->Bool×List Mis
 | true,l,_=>(true,l)
 | false,l,m=>(!decide (l.length+1<64),l++[m])
end Go.Proofs.YtbaaokocnegdoaaGreatDoor
