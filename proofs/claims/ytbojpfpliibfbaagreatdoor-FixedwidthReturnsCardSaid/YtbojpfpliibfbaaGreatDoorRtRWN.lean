/- A part of the proof. -/
import Derived.Test.YtbojpfpliibfbaaGreatDoorRtRWK
set_option maxRecDepth 100000
set_option linter.unusedVariables false
set_option linter.unusedSimpArgs false
namespace Go.Proofs.YtbojpfpliibfbaaGreatDoor
open Go Go.Ab
attribute [local irreducible] vc
def gB:Bool->List Mis->Mis->Bool×List Mis
 | true,l,_=>(true,l)
 | false,l,m=>(true,l++[m])
def dw:Bool->List Mis->List Mis->Bool×List Mis
 | d,l,[]=>(d,l)
 | d,l,m::r=>dw (gB d l m).1 (gB d l m).2 r
def bM (d:Bool)(l:List Mis):List Blk:=[.cells 122 true [.clo 80 [] [.ptr 1 0],.pv (.bool d)],.cells 4 true [.pv (.bool (!d))]]
theorem Rc (d:Bool)(m:Mis):a8 Tryz.prog au 1 80 [.pv m.pv,.ptr 0 0] [.cells 4 true [.pv (.bool d)]] (.pv (.bool false)) [.cells 4 true [.pv (.bool false)]]:=by
 obtain⟨p,c⟩:=m
 refine a8.intro Q80.2 (by simp[Q80]) ?_
 simp(disch:=try exact dI) only[Q80,Mis.pv_mk,push_cast,seval]
 exact aG [] qsZ
theorem kx (d:Bool)(l:List Mis)(p:List UInt8)(c:Int)(hl:l.length<=100000):a8 Tryz.prog au 2 134 [.ptr 0 0,.pv (.str p),.pv (.int .i64 c)] (bM d l) (.pv (.tup [])) (bM (gB d l (.mk p c)).1 (gB d l (.mk p c)).2):=by
 have h63:=Rc true (.mk p c)
 rw[Mis.pv_mk] at h63
 refine a8.intro Ow.2 (by simp[Ow]) ?_
 cases d with
 | true=>
   rw[gB]
   simp(disch:=try exact dI) only[Ow,bM,push_cast,seval]
   exact aG [] qsZ
 | false=>
   rw[gB]
   simp(disch:=try exact dI) only[Ow,bM,push_cast,seval]
   refine ab.lentK h63 [1] rfl qsZ qsZ ?_
   refine zgZ ?_
   exact aG [] qsZ
theorem dh (d:Bool)(l:List Mis)(m:Mis):dw d l [m]=gB d l m:=rfl
theorem gw (d:Bool)(l:List Mis):dw d l []=(d,l):=rfl
theorem ja:∀ (a b:List Mis) (d:Bool) (l:List Mis),dw d l (a++b)=dw (dw d l a).1 (dw d l a).2 b
 | [],b,d,l=>rfl
 | m::r,b,d,l=>by rw[List.cons_append,dw,ja r b,dw]
theorem kw:∀ (a:List Mis) (l:List Mis),dw true l a=(true,l)
 | [],l=>rfl
 | m::r,l=>by rw[dw,gB];exact kw r l
theorem ld (d:Bool)(l:List Mis)(t:Typ)(p:List UInt8)(n:Int)(hl:l.length<=100000)(R:Bool×List Mis)(hR:R=dw d l (uB t.min t.max p n)) :
  a8 Tryz.prog au 2 136 [.ptr 0 0,.pv t.pv,.pv (.str p),.pv (.int .i64 n)] (bM d l) (.pv (.tup [])) (bM R.1 R.2):=by
 have h83:=kx d l p 2 hl
 obtain⟨k,m,M,s,w,e,f⟩:=t
 simp only[Typ.min,Typ.max] at hR
 refine a8.intro N0.2 (by simp[N0]) ?_
 unfold bM at h83 ⊢
 by_cases h1:n<m
 ·rw[GA (.inl h1),dh] at hR
  rw[<- hR] at h83
  simp(disch:=try exact dI) only[N0,Typ.pv_mk,push_cast,seval]
  refine ab.lentK h83 [0,1] rfl qsZ qsZ ?_
  refine zgZ ?_
  exact aG [] qsZ
 ·by_cases h2:M<n
  ·rw[GA (.inr h2),dh] at hR
   rw[<- hR] at h83
   simp(disch:=try exact dI) only[N0,Typ.pv_mk,push_cast,seval]
   refine ab.lentK h83 [0,1] rfl qsZ qsZ ?_
   refine zgZ ?_
   exact aG [] qsZ
  ·rw[L7 (fun h=>h.elim h1 h2),gw] at hR
   subst hR
   simp(disch:=try exact dI) only[N0,Typ.pv_mk,push_cast,seval]
   exact aG [] qsZ
theorem ve {d:Bool}{l:List Mis}(h:Pe d l)(m:Mis):Pe (gB d l m).1 (gB d l m).2:=by
 cases d with
 | true=>exact h
 | false=>
   have:=h.2 rfl
   exact⟨by simp[gB];omega,fun hh=>by simp[gB] at hh⟩
def nj:=Pe
theorem iV:∀ (a:List Mis) {d:Bool} {l:List Mis},nj d l->nj (dw d l a).1 (dw d l a).2
 | [],d,l,h=>h
 | m::r,d,l,h=>iV r (ve h m)
def KB:Prop:=∀ (t:Typ) (v:Val) (p:List UInt8) (d:Bool) (l:List Mis) (R:Bool×List Mis),dep 1 v->eq 1 t->t.kind<=7->v.ok->p.length<=2000->nj d l->R=dw d l (bq 1 t v p) ->
 a8 Tryz.prog au 2 81 [.ptr 0 0,.pv t.pv,.pv v.pv,.pv (.str p)] (bM d l) (.pv (.tup [])) (bM R.1 R.2)
theorem yu (ih:KB)(t:Typ)(v:Val)(p:List UInt8)(d:Bool)(l:List Mis)(R:Bool×List Mis)(hd:dep 2 v)(ht:eq 2 t)(hsc:∀ g∈t.fields,g.typ.kind<=7)(hv:v.ok)(hk:v.kind=9)(hp:p.length<=1000)(hi:nj d l)(hR:R=dw d l (KH (bq 1) t v p)) :
  a8 Tryz.prog au 2 138 [.ptr 0 0,.pv t.pv,.pv v.pv,.pv (.str p)] (bM d l) (.pv (.tup [])) (bM R.1 R.2):=by
 have h113:=fun name=>mN v name hv hk
 have h89:=fun name=>po t name
 obtain⟨k,m,M,s,w,e,fs⟩:=t
 obtain⟨vk,vi,vs,vt,vl,vf⟩:=v
 simp only[dep,eq,Val.lst,Val.fields,Val.text,Typ.fields,Typ.words,Typ.elem,KH] at hd ht hR h113 h89 hsc
 obtain⟨d1,d2,d3,d4,d5⟩:=hd
 obtain⟨t1,t2,t3,t4⟩:=ht
 rw[Val.ok_mk] at hv
 refine a8.intro QA.2 (by simp[QA]) ?_
 rw[Typ.pv_mk,Val.pv_mk] at *
 generalize hF1:fu (bq 1) vf p=F1 at hR
 generalize hF2:jG fs p=F2 at hR
 simp(disch:=try exact dI) only[QA,bM,push_cast,seval]
 refine aC ([]) (fun i:Nat=>[(19,.pv (.int .i64 (i:Int)))]) (fun i=>[(0,.cells 122 true [.clo 80 [] [.ptr 1 0],.pv (.bool (dw d l ((fs.take i).flatMap F1)).1)]),(1,.cells 4 true [.pv (.bool (!(dw d l ((fs.take i).flatMap F1)).1))])]) (fun i=>i<=fs.length) (fun i=>fs.length - i) (0) ?_;intro e0 σ0 n0 h0;simp(disch:=try exact dI) only[push_cast,seval] at h0;obtain⟨rfl,rfl,rfl⟩:=h0;refine⟨?_,?_,?_⟩
 ·simp(disch:=try exact dI) only[dw,List.flatMap_nil,push_cast,seval]
 ·omega
 ·intro i hi2
  by_cases hlt:i<fs.length
  ·have hltI:(i:Int)<fs.length:=by omega
   obtain⟨x,hx⟩:∃ x,fs[i]? = some x:=⟨_,List.getElem?_eq_getElem hlt⟩
   have hsn:=oA F1 hx
   have hinv:=iV ((fs.take i).flatMap F1) hi
   have happ:=ja ((fs.take i).flatMap F1) (F1 x) d l
   rw[<- hsn] at happ
   generalize dw d l ((fs.take i).flatMap F1)=S at *
   obtain⟨Sd,Sl⟩:=S
   simp only at hinv happ
   obtain⟨hxn,hxt⟩:=t4 x (List.mem_of_getElem? hx)
   have hxk:=hsc x (List.mem_of_getElem? hx)
   have hF1x:F1 x=fu (bq 1) vf p x:=by rw[hF1]
   obtain⟨x1,x2,x3,⟨y1,y2,y3,y4,y5,y6,y7⟩,x5⟩:=x
   simp only[TFd.name,TFd.typ] at hxn hxt hxk
   have hc:=h113 x2 (by omega)
   have hul:=kQ p x2
   have hu:=rt p x2 (by omega) (by omega)
   cases hfd:vf.find? (bn x2) with
   | some y=>
     rw[hfd] at hc
     rw[j6 (by exact hfd)] at hF1x
     have hym:=List.mem_of_find?_eq_some hfd
     have hyd:=(d5 y hym).2
     have hyo:=hv.2.2.2.2.2.2.2 y hym
     obtain⟨yn,yv⟩:=y
     rw[Fld.ok_mk] at hyo
     simp only[Fld.value,TFd.typ,TFd.name] at hyd hF1x
     have hih:=ih (.mk y1 y2 y3 y4 y5 y6 y7) yv (cZ p x2) Sd Sl _ hyd hxt hxk hyo.2 (by omega) hinv rfl
     rw[<- hF1x,<- happ] at hih
     obtain⟨z1,z2,z3,z4,z5,z6⟩:=yv
     simp only[vlR,Option.map_some,Option.getD_some,Option.isSome_some,Fld.value,Val.pv_mk] at hc
     simp only[bM,Typ.pv_mk,Val.pv_mk] at hih
     simp(disch:=try exact dI) only[hx,TFd.pv_mk,Typ.pv_mk,push_cast,seval]
     refine ab.pure hc rfl ?_
     simp(disch:=try exact dI) only[TFd.pv_mk,Typ.pv_mk,push_cast,seval]
     refine aq hu rfl ?_
     refine zgZ ?_
     refine ab.lentK hih [0,1] rfl qsZ qsZ ?_
     refine zgZ ?_
     exact⟨i+1,aX qsZ,by omega,by omega⟩
   | none=>
     rw[hfd] at hc
     simp only[vlR,Option.map_none,Option.getD_none,Option.isSome_none,eC,Val.pv_mk,List.map_nil] at hc
     by_cases hn:x3=2
     ·rw[vz (by exact hfd) (by exact hn)] at hF1x
      rw[hF1x,gw] at happ
      simp(disch:=try exact dI) only[hx,TFd.pv_mk,Typ.pv_mk,hn,push_cast,seval]
      refine ab.pure hc rfl ?_
      simp(disch:=try exact dI) only[TFd.pv_mk,Typ.pv_mk,push_cast,seval]
      exact⟨i+1,aX (by simp(disch:=try exact dI) only[happ,push_cast,seval]),by omega,by omega⟩
     ·rw[j7 (by exact hfd) (by exact hn)] at hF1x
      simp only[TFd.name] at hF1x
      rw[hF1x,dh] at happ
      have h83:=kx Sd Sl (cZ p x2) 5 (by have:=hinv.1;omega)
      rw[<- happ] at h83
      simp only[bM] at h83
      simp(disch:=try exact dI) only[hx,TFd.pv_mk,Typ.pv_mk,push_cast,seval]
      refine ab.pure hc rfl ?_
      simp(disch:=try exact dI) only[TFd.pv_mk,Typ.pv_mk,push_cast,seval]
      refine ab.pure hu rfl ?_
      refine zgZ ?_
      refine ab.lentK h83 [0,1] rfl qsZ qsZ ?_
      refine zgZ ?_
      exact⟨i+1,aX qsZ,by omega,by omega⟩
  ·have hltI:¬ (i:Int)<fs.length:=by omega
   have hinv:=iV (fs.flatMap F1) hi
   rw[ja] at hR
   rw[rD hlt]
   generalize dw d l (fs.flatMap F1)=S at *
   obtain⟨Sd,Sl⟩:=S
   simp only at hinv hR
   refine zgZ ?_
   refine aC ([]) (fun i:Nat=>[(53,.pv (.int .i64 (i:Int)))]) (fun i=>[(0,.cells 122 true [.clo 80 [] [.ptr 1 0],.pv (.bool (dw Sd Sl ((vf.take i).flatMap F2)).1)]),(1,.cells 4 true [.pv (.bool (!(dw Sd Sl ((vf.take i).flatMap F2)).1))])]) (fun i=>i<=vf.length) (fun i=>vf.length - i) (0) ?_;intro e0 σ0 n0 h0;simp(disch:=try exact dI) only[push_cast,seval] at h0;obtain⟨rfl,rfl,rfl⟩:=h0;refine⟨?_,?_,?_⟩
   ·simp(disch:=try exact dI) only[dw,List.flatMap_nil,push_cast,seval]
   ·omega
   ·intro i hi2
    by_cases hlt:i<vf.length
    ·have hltI:(i:Int)<vf.length:=by omega
     obtain⟨x,hx⟩:∃ x,vf[i]? = some x:=⟨_,List.getElem?_eq_getElem hlt⟩
     have hsn:=oA F2 hx
     have hinv2:=iV ((vf.take i).flatMap F2) hinv
     have happ:=ja ((vf.take i).flatMap F2) (F2 x) Sd Sl
     rw[<- hsn] at happ
     generalize dw Sd Sl ((vf.take i).flatMap F2)=T at *
     obtain⟨Td,Tl⟩:=T
     simp only at hinv2 happ
     have hxn:=(d5 x (List.mem_of_getElem? hx)).1
     have hF2x:F2 x=jG fs p x:=by rw[hF2]
     obtain⟨x1,⟨y1,y2,y3,y4,y5,y6⟩⟩:=x
     simp only[Fld.name] at hxn
     have hc:=h89 x1 (by omega)
     have hul:=kQ p x1
     have hu:=rt p x1 (by omega) (by omega)
     cases hfd:fs.find? (named x1) with
     | some z=>
       rw[hfd] at hc
       rw[p6 (by exact hfd)] at hF2x
       rw[hF2x,gw] at happ
       obtain⟨z1,z2,z3,⟨w1,w2,w3,w4,w5,w6,w7⟩,z5⟩:=z
       simp only[tfR,Option.getD_some,Option.isSome_some,TFd.pv_mk,Typ.pv_mk] at hc
       simp(disch:=try exact dI) only[hx,Fld.pv_mk,Val.pv_mk,push_cast,seval]
       refine ab.pure hc rfl ?_
       refine zgZ ?_
       exact⟨i+1,aX (by simp(disch:=try exact dI) only[happ,push_cast,seval]),by omega,by omega⟩
     | none=>
       rw[hfd] at hc
       rw[jF (by exact hfd)] at hF2x
       simp only[Fld.name] at hF2x
       rw[hF2x,dh] at happ
       have h83:=kx Td Tl (cZ p x1) 6 (by have:=hinv2.1;omega)
       rw[<- happ] at h83
       simp only[bM] at h83
       simp only[tfR,Option.getD_none,Option.isSome_none,ib,TFd.pv_mk,Typ.pv_mk,List.map_nil] at hc
       simp(disch:=try exact dI) only[hx,Fld.pv_mk,Val.pv_mk,push_cast,seval]
       refine ab.pure hc rfl ?_
       refine zgZ ?_
       refine ab.pure hu rfl ?_
       refine zgZ ?_
       refine ab.lentK h83 [0,1] rfl qsZ qsZ ?_
       refine zgZ ?_
       exact⟨i+1,aX qsZ,by omega,by omega⟩
    ·have hltI:¬ (i:Int)<vf.length:=by omega
     rw[rD hlt]
     rw[<- hR]
     refine zgZ ?_
     exact aG [] qsZ
theorem iw (n:Nat)(t:Typ)(v:Val)(p:List UInt8)(l:List Mis)(R:Bool×List Mis)(hd:dep (n+1) v)(ht:eq (n+1) t)(hv:v.ok)(hp:p.length<=2000)(hi:nj false l)(hR:R=dw false l (bq (n+1) t v p))(h:t.kind<1\/10<t.kind\/¬ v.kind=t.kind) :
  a8 Tryz.prog au 2 81 [.ptr 0 0,.pv t.pv,.pv v.pv,.pv (.str p)] (bM false l) (.pv (.tup [])) (bM R.1 R.2):=by
 have hd0:=hd
 simp only[dep] at hd0
 have h83:=fun c=>kx false l p c (by have:=hi.1;omega)
 have hvo:=hv
 have h83:=h83 1
 rw[aK,dJ h,dh] at hR
 obtain⟨k,m,M,s,w,e,fs⟩:=t
 obtain⟨vk,vi,vs,vt,vl,vf⟩:=v
 simp only[dep,eq,Val.lst,Val.fields,Val.text,Typ.fields,Typ.words,Typ.elem,Typ.kind,Val.kind,Typ.min,Typ.max,Typ.scale,Val.num,Val.scale] at *
 obtain⟨d1,d2,d3,d4,d5⟩:=hd
 obtain⟨t1,t2,t3,t4⟩:=ht
 refine a8.intro Q81.2 (by simp[Q81]) ?_
 rw[Typ.pv_mk,Val.pv_mk] at *
 simp only[bM] at *
 rw[<- hR] at h83
 by_cases a:k<1
 ·simp(disch:=try exact dI) only[Q81,a,push_cast,seval]
  refine ab.lentK h83 [0,1] rfl qsZ qsZ ?_
  refine zgZ ?_
  exact aG [] qsZ
 ·by_cases b:10<k
  ·simp(disch:=try exact dI) only[Q81,a,b,push_cast,seval]
   refine ab.lentK h83 [0,1] rfl qsZ qsZ ?_
   refine zgZ ?_
   exact aG [] qsZ
  ·have c:¬ vk=k:=by omega
   simp(disch:=try exact dI) only[Q81,a,b,c,push_cast,seval]
   refine ab.lentK h83 [0,1] rfl qsZ qsZ ?_
   refine zgZ ?_
   exact aG [] qsZ
theorem j4 (n:Nat)(t:Typ)(v:Val)(p:List UInt8)(l:List Mis)(R:Bool×List Mis)(hd:dep (n+1) v)(ht:eq (n+1) t)(hv:v.ok)(hp:p.length<=2000)(hi:nj false l)(hR:R=dw false l (bq (n+1) t v p))(h:¬ (t.kind<1\/10<t.kind\/¬ v.kind=t.kind))(hf:ae v=false) :
  a8 Tryz.prog au 2 81 [.ptr 0 0,.pv t.pv,.pv v.pv,.pv (.str p)] (bM false l) (.pv (.tup [])) (bM R.1 R.2):=by
 have hd0:=hd
 simp only[dep] at hd0
 have h84:=bF v (by omega) (by omega) (by omega)
 have h83:=fun c=>kx false l p c (by have:=hi.1;omega)
 have hvo:=hv
 have h83:=h83 8
 rw[aK,f7 h hf,dh] at hR
 obtain⟨k,m,M,s,w,e,fs⟩:=t
 obtain⟨vk,vi,vs,vt,vl,vf⟩:=v
 simp only[dep,eq,Val.lst,Val.fields,Val.text,Typ.fields,Typ.words,Typ.elem,Typ.kind,Val.kind,Typ.min,Typ.max,Typ.scale,Val.num,Val.scale] at *
 obtain⟨d1,d2,d3,d4,d5⟩:=hd
 obtain⟨t1,t2,t3,t4⟩:=ht
 refine a8.intro Q81.2 (by simp[Q81]) ?_
 rw[Typ.pv_mk,Val.pv_mk] at *
 simp only[bM] at *
 have a:¬ k<1:=by omega
 have b:¬ 10<k:=by omega
 have c:vk=k:=by omega
 subst c
 rw[<- hR] at h83
 rw[hf] at h84
 simp(disch:=try exact dI) only[Q81,a,b,push_cast,seval]
 refine ab.pure h84 rfl ?_
 refine zgZ ?_
 refine ab.lentK h83 [0,1] rfl qsZ qsZ ?_
 refine zgZ ?_
 exact aG [] qsZ
theorem Bb (n:Nat)(t:Typ)(v:Val)(p:List UInt8)(l:List Mis)(R:Bool×List Mis)(hd:dep (n+1) v)(ht:eq (n+1) t)(hv:v.ok)(hp:p.length<=2000)(hi:nj false l)(hR:R=dw false l (bq (n+1) t v p))(h:¬ (t.kind<1\/10<t.kind\/¬ v.kind=t.kind))(hf:ae v=true)(hk:t.kind=2) :
  a8 Tryz.prog au 2 81 [.ptr 0 0,.pv t.pv,.pv v.pv,.pv (.str p)] (bM false l) (.pv (.tup [])) (bM R.1 R.2):=by
 have hd0:=hd
 simp only[dep] at hd0
 have h84:=bF v (by omega) (by omega) (by omega)
 have h85:=fun k=>ld false l t p k (by have:=hi.1;omega) _ rfl
 have hvo:=hv
 have h85:=h85 v.num
 rw[aK,eU h hf (by omega)] at hR
 obtain⟨k,m,M,s,w,e,fs⟩:=t
 obtain⟨vk,vi,vs,vt,vl,vf⟩:=v
 simp only[dep,eq,Val.lst,Val.fields,Val.text,Typ.fields,Typ.words,Typ.elem,Typ.kind,Val.kind,Typ.min,Typ.max,Typ.scale,Val.num,Val.scale] at *
 obtain⟨d1,d2,d3,d4,d5⟩:=hd
 obtain⟨t1,t2,t3,t4⟩:=ht
 refine a8.intro Q81.2 (by simp[Q81]) ?_
 rw[Typ.pv_mk,Val.pv_mk] at *
 simp only[bM] at *
 have c:vk=2:=by omega
 subst hk c
 rw[<- hR] at h85
 rw[hf] at h84
 simp(disch:=try exact dI) only[Q81,push_cast,seval]
 refine ab.pure h84 rfl ?_
 refine zgZ ?_
 refine ab.lentK h85 [0,1] rfl qsZ qsZ ?_
 refine zgZ ?_
 exact aG [] qsZ
theorem A7 (n:Nat)(t:Typ)(v:Val)(p:List UInt8)(l:List Mis)(R:Bool×List Mis)(hd:dep (n+1) v)(ht:eq (n+1) t)(hv:v.ok)(hp:p.length<=2000)(hi:nj false l)(hR:R=dw false l (bq (n+1) t v p))(h:¬ (t.kind<1\/10<t.kind\/¬ v.kind=t.kind))(hf:ae v=true)(hk:t.kind=6) :
  a8 Tryz.prog au 2 81 [.ptr 0 0,.pv t.pv,.pv v.pv,.pv (.str p)] (bM false l) (.pv (.tup [])) (bM R.1 R.2):=by
 have hd0:=hd
 simp only[dep] at hd0
 have h84:=bF v (by omega) (by omega) (by omega)
 have h85:=fun k=>ld false l t p k (by have:=hi.1;omega) _ rfl
 have hvo:=hv
 have h85:=h85 v.num
 rw[aK,eU h hf (by omega)] at hR
 obtain⟨k,m,M,s,w,e,fs⟩:=t
 obtain⟨vk,vi,vs,vt,vl,vf⟩:=v
 simp only[dep,eq,Val.lst,Val.fields,Val.text,Typ.fields,Typ.words,Typ.elem,Typ.kind,Val.kind,Typ.min,Typ.max,Typ.scale,Val.num,Val.scale] at *
 obtain⟨d1,d2,d3,d4,d5⟩:=hd
 obtain⟨t1,t2,t3,t4⟩:=ht
 refine a8.intro Q81.2 (by simp[Q81]) ?_
 rw[Typ.pv_mk,Val.pv_mk] at *
 simp only[bM] at *
 have c:vk=6:=by omega
 subst hk c
 rw[<- hR] at h85
 rw[hf] at h84
 simp(disch:=try exact dI) only[Q81,push_cast,seval]
 refine ab.pure h84 rfl ?_
 refine zgZ ?_
 refine ab.lentK h85 [0,1] rfl qsZ qsZ ?_
 refine zgZ ?_
 exact aG [] qsZ
theorem A6 (n:Nat)(t:Typ)(v:Val)(p:List UInt8)(l:List Mis)(R:Bool×List Mis)(hd:dep (n+1) v)(ht:eq (n+1) t)(hv:v.ok)(hp:p.length<=2000)(hi:nj false l)(hR:R=dw false l (bq (n+1) t v p))(h:¬ (t.kind<1\/10<t.kind\/¬ v.kind=t.kind))(hf:ae v=true)(hk:t.kind=7) :
  a8 Tryz.prog au 2 81 [.ptr 0 0,.pv t.pv,.pv v.pv,.pv (.str p)] (bM false l) (.pv (.tup [])) (bM R.1 R.2):=by
 have hd0:=hd
 simp only[dep] at hd0
 have h84:=bF v (by omega) (by omega) (by omega)
 have h85:=fun k=>ld false l t p k (by have:=hi.1;omega) _ rfl
 have hvo:=hv
 have h85:=h85 v.num
 rw[aK,eU h hf (by omega)] at hR
 obtain⟨k,m,M,s,w,e,fs⟩:=t
 obtain⟨vk,vi,vs,vt,vl,vf⟩:=v
 simp only[dep,eq,Val.lst,Val.fields,Val.text,Typ.fields,Typ.words,Typ.elem,Typ.kind,Val.kind,Typ.min,Typ.max,Typ.scale,Val.num,Val.scale] at *
 obtain⟨d1,d2,d3,d4,d5⟩:=hd
 obtain⟨t1,t2,t3,t4⟩:=ht
 refine a8.intro Q81.2 (by simp[Q81]) ?_
 rw[Typ.pv_mk,Val.pv_mk] at *
 simp only[bM] at *
 have c:vk=7:=by omega
 subst hk c
 rw[<- hR] at h85
 rw[hf] at h84
 simp(disch:=try exact dI) only[Q81,push_cast,seval]
 refine ab.pure h84 rfl ?_
 refine zgZ ?_
 refine ab.lentK h85 [0,1] rfl qsZ qsZ ?_
 refine zgZ ?_
 exact aG [] qsZ
theorem Bc (n:Nat)(t:Typ)(v:Val)(p:List UInt8)(l:List Mis)(R:Bool×List Mis)(hd:dep (n+1) v)(ht:eq (n+1) t)(hv:v.ok)(hp:p.length<=2000)(hi:nj false l)(hR:R=dw false l (bq (n+1) t v p))(h:¬ (t.kind<1\/10<t.kind\/¬ v.kind=t.kind))(hf:ae v=true)(hk:t.kind=1) :
  a8 Tryz.prog au 2 81 [.ptr 0 0,.pv t.pv,.pv v.pv,.pv (.str p)] (bM false l) (.pv (.tup [])) (bM R.1 R.2):=by
 have hd0:=hd
 simp only[dep] at hd0
 have h84:=bF v (by omega) (by omega) (by omega)
 have hvo:=hv
 rw[aK,ll h hf hk,gw] at hR
 obtain⟨k,m,M,s,w,e,fs⟩:=t
 obtain⟨vk,vi,vs,vt,vl,vf⟩:=v
 simp only[dep,eq,Val.lst,Val.fields,Val.text,Typ.fields,Typ.words,Typ.elem,Typ.kind,Val.kind,Typ.min,Typ.max,Typ.scale,Val.num,Val.scale] at *
 obtain⟨d1,d2,d3,d4,d5⟩:=hd
 obtain⟨t1,t2,t3,t4⟩:=ht
 refine a8.intro Q81.2 (by simp[Q81]) ?_
 rw[Typ.pv_mk,Val.pv_mk] at *
 simp only[bM] at *
 have c:vk=1:=by omega
 subst hk c hR
 rw[hf] at h84
 simp(disch:=try exact dI) only[Q81,push_cast,seval]
 refine ab.pure h84 rfl ?_
 refine zgZ ?_
 exact aG [] qsZ
theorem vu (n:Nat)(t:Typ)(v:Val)(p:List UInt8)(l:List Mis)(R:Bool×List Mis)(hd:dep (n+1) v)(ht:eq (n+1) t)(hv:v.ok)(hp:p.length<=2000)(hi:nj false l)(hR:R=dw false l (bq (n+1) t v p))(h:¬ (t.kind<1\/10<t.kind\/¬ v.kind=t.kind))(hf:ae v=true)(hk:t.kind=3)(hs:v.scale=t.scale) :
  a8 Tryz.prog au 2 81 [.ptr 0 0,.pv t.pv,.pv v.pv,.pv (.str p)] (bM false l) (.pv (.tup [])) (bM R.1 R.2):=by
 have hd0:=hd
 simp only[dep] at hd0
 have h84:=bF v (by omega) (by omega) (by omega)
 have h85:=fun k=>ld false l t p k (by have:=hi.1;omega) _ rfl
 have hvo:=hv
 have h85:=h85 v.num
 rw[aK,jS h hf hk hs] at hR
 obtain⟨k,m,M,s,w,e,fs⟩:=t
 obtain⟨vk,vi,vs,vt,vl,vf⟩:=v
 simp only[dep,eq,Val.lst,Val.fields,Val.text,Typ.fields,Typ.words,Typ.elem,Typ.kind,Val.kind,Typ.min,Typ.max,Typ.scale,Val.num,Val.scale] at *
 obtain⟨d1,d2,d3,d4,d5⟩:=hd
 obtain⟨t1,t2,t3,t4⟩:=ht
 refine a8.intro Q81.2 (by simp[Q81]) ?_
 rw[Typ.pv_mk,Val.pv_mk] at *
 simp only[bM] at *
 have c:vk=3:=by omega
 subst hk c
 rw[<- hR] at h85
 rw[hf] at h84
 simp(disch:=try exact dI) only[Q81,push_cast,seval]
 refine ab.pure h84 rfl ?_
 simp(disch:=try exact dI) only[hs,push_cast,seval]
 refine ab.lentK h85 [0,1] rfl qsZ qsZ ?_
 refine zgZ ?_
 exact aG [] qsZ
theorem Ba (n:Nat)(t:Typ)(v:Val)(p:List UInt8)(l:List Mis)(R:Bool×List Mis)(hd:dep (n+1) v)(ht:eq (n+1) t)(hv:v.ok)(hp:p.length<=2000)(hi:nj false l)(hR:R=dw false l (bq (n+1) t v p))(h:¬ (t.kind<1\/10<t.kind\/¬ v.kind=t.kind))(hf:ae v=true)(hk:t.kind=3)(hs:¬ v.scale=t.scale) :
  a8 Tryz.prog au 2 81 [.ptr 0 0,.pv t.pv,.pv v.pv,.pv (.str p)] (bM false l) (.pv (.tup [])) (bM R.1 R.2):=by
 have hd0:=hd
 simp only[dep] at hd0
 have h84:=bF v (by omega) (by omega) (by omega)
 have h83:=fun c=>kx false l p c (by have:=hi.1;omega)
 have hvo:=hv
 have h83:=h83 3
 rw[aK,jQ h hf hk hs,dh] at hR
 obtain⟨k,m,M,s,w,e,fs⟩:=t
 obtain⟨vk,vi,vs,vt,vl,vf⟩:=v
 simp only[dep,eq,Val.lst,Val.fields,Val.text,Typ.fields,Typ.words,Typ.elem,Typ.kind,Val.kind,Typ.min,Typ.max,Typ.scale,Val.num,Val.scale] at *
 obtain⟨d1,d2,d3,d4,d5⟩:=hd
 obtain⟨t1,t2,t3,t4⟩:=ht
 refine a8.intro Q81.2 (by simp[Q81]) ?_
 rw[Typ.pv_mk,Val.pv_mk] at *
 simp only[bM] at *
 have c:vk=3:=by omega
 subst hk c
 rw[<- hR] at h83
 rw[hf] at h84
 simp(disch:=try exact dI) only[Q81,push_cast,seval]
 refine ab.pure h84 rfl ?_
 simp(disch:=try exact dI) only[hs,push_cast,seval]
 refine ab.lentK h83 [0,1] rfl qsZ qsZ ?_
 refine zgZ ?_
 exact aG [] qsZ
theorem A8 (n:Nat)(t:Typ)(v:Val)(p:List UInt8)(l:List Mis)(R:Bool×List Mis)(hd:dep (n+1) v)(ht:eq (n+1) t)(hv:v.ok)(hp:p.length<=2000)(hi:nj false l)(hR:R=dw false l (bq (n+1) t v p))(h:¬ (t.kind<1\/10<t.kind\/¬ v.kind=t.kind))(hf:ae v=true)(hk:t.kind=5) :
  a8 Tryz.prog au 2 81 [.ptr 0 0,.pv t.pv,.pv v.pv,.pv (.str p)] (bM false l) (.pv (.tup [])) (bM R.1 R.2):=by
 have hd0:=hd
 simp only[dep] at hd0
 have h84:=bF v (by omega) (by omega) (by omega)
 have h85:=fun k=>ld false l t p k (by have:=hi.1;omega) _ rfl
 have hvo:=hv
 have h85:=h85 v.text.length
 rw[aK,dH h hf (.inr hk) (by omega)] at hR
 obtain⟨k,m,M,s,w,e,fs⟩:=t
 obtain⟨vk,vi,vs,vt,vl,vf⟩:=v
 simp only[dep,eq,Val.lst,Val.fields,Val.text,Typ.fields,Typ.words,Typ.elem,Typ.kind,Val.kind,Typ.min,Typ.max,Typ.scale,Val.num,Val.scale] at *
 obtain⟨d1,d2,d3,d4,d5⟩:=hd
 obtain⟨t1,t2,t3,t4⟩:=ht
 refine a8.intro Q81.2 (by simp[Q81]) ?_
 rw[Typ.pv_mk,Val.pv_mk] at *
 simp only[bM] at *
 have c:vk=5:=by omega
 subst hk c
 rw[<- hR] at h85
 rw[hf] at h84
 simp(disch:=try exact dI) only[Q81,push_cast,seval]
 refine ab.pure h84 rfl ?_
 refine zgZ ?_
 refine ab.lentK h85 [0,1] rfl qsZ qsZ ?_
 refine zgZ ?_
 exact aG [] qsZ
theorem A9 (n:Nat)(t:Typ)(v:Val)(p:List UInt8)(l:List Mis)(R:Bool×List Mis)(hd:dep (n+1) v)(ht:eq (n+1) t)(hv:v.ok)(hp:p.length<=2000)(hi:nj false l)(hR:R=dw false l (bq (n+1) t v p))(h:¬ (t.kind<1\/10<t.kind\/¬ v.kind=t.kind))(hf:ae v=true)(hk:t.kind=4)(hw:t.words.length=0) :
  a8 Tryz.prog au 2 81 [.ptr 0 0,.pv t.pv,.pv v.pv,.pv (.str p)] (bM false l) (.pv (.tup [])) (bM R.1 R.2):=by
 have hd0:=hd
 simp only[dep] at hd0
 have h84:=bF v (by omega) (by omega) (by omega)
 have h85:=fun k=>ld false l t p k (by have:=hi.1;omega) _ rfl
 have hvo:=hv
 have h85:=h85 v.text.length
 rw[aK,dH h hf (.inl hk) (fun _=>hw)] at hR
 obtain⟨k,m,M,s,w,e,fs⟩:=t
 obtain⟨vk,vi,vs,vt,vl,vf⟩:=v
 simp only[dep,eq,Val.lst,Val.fields,Val.text,Typ.fields,Typ.words,Typ.elem,Typ.kind,Val.kind,Typ.min,Typ.max,Typ.scale,Val.num,Val.scale] at *
 obtain⟨d1,d2,d3,d4,d5⟩:=hd
 obtain⟨t1,t2,t3,t4⟩:=ht
 refine a8.intro Q81.2 (by simp[Q81]) ?_
 rw[Typ.pv_mk,Val.pv_mk] at *
 simp only[bM] at *
 have c:vk=4:=by omega
 subst hk c
 rw[<- hR] at h85
 rw[hf] at h84
 have hz:¬ (0:Int)<w.length:=by omega
 simp(disch:=try exact dI) only[Q81,push_cast,seval]
 refine ab.pure h84 rfl ?_
 refine zgZ ?_
 refine ab.lentK h85 [0,1] rfl qsZ qsZ ?_
 refine zgZ ?_
 exact aG [] qsZ
theorem vq (n:Nat)(t:Typ)(v:Val)(p:List UInt8)(l:List Mis)(R:Bool×List Mis)(hd:dep (n+1) v)(ht:eq (n+1) t)(hv:v.ok)(hp:p.length<=2000)(hi:nj false l)(hR:R=dw false l (bq (n+1) t v p))(h:¬ (t.kind<1\/10<t.kind\/¬ v.kind=t.kind))(hf:ae v=true)(hk:t.kind=4)(hw:0<t.words.length)(ha:(t.words.any fun x=>decide (x=v.text))=true) :
  a8 Tryz.prog au 2 81 [.ptr 0 0,.pv t.pv,.pv v.pv,.pv (.str p)] (bM false l) (.pv (.tup [])) (bM R.1 R.2):=by
 have hd0:=hd
 simp only[dep] at hd0
 have h84:=bF v (by omega) (by omega) (by omega)
 have h86:=fc t.words v.text (by have:=ht;simp only[eq] at this;omega)
 have hvo:=hv
 rw[aK,lk h hf hk hw ha,gw] at hR
 obtain⟨k,m,M,s,w,e,fs⟩:=t
 obtain⟨vk,vi,vs,vt,vl,vf⟩:=v
 simp only[dep,eq,Val.lst,Val.fields,Val.text,Typ.fields,Typ.words,Typ.elem,Typ.kind,Val.kind,Typ.min,Typ.max,Typ.scale,Val.num,Val.scale] at *
 obtain⟨d1,d2,d3,d4,d5⟩:=hd
 obtain⟨t1,t2,t3,t4⟩:=ht
 refine a8.intro Q81.2 (by simp[Q81]) ?_
 rw[Typ.pv_mk,Val.pv_mk] at *
 simp only[bM] at *
 have c:vk=4:=by omega
 subst hk c hR
 rw[hf] at h84
 rw[ha] at h86
 have hz:(0:Int)<w.length:=by omega
 simp(disch:=try exact dI) only[Q81,push_cast,seval]
 refine ab.pure h84 rfl ?_
 refine zgZ ?_
 refine ab.pure h86 rfl ?_
 refine zgZ ?_
 exact aG [] qsZ
theorem vr (n:Nat)(t:Typ)(v:Val)(p:List UInt8)(l:List Mis)(R:Bool×List Mis)(hd:dep (n+1) v)(ht:eq (n+1) t)(hv:v.ok)(hp:p.length<=2000)(hi:nj false l)(hR:R=dw false l (bq (n+1) t v p))(h:¬ (t.kind<1\/10<t.kind\/¬ v.kind=t.kind))(hf:ae v=true)(hk:t.kind=4)(hw:0<t.words.length)(ha:(t.words.any fun x=>decide (x=v.text))=false) :
  a8 Tryz.prog au 2 81 [.ptr 0 0,.pv t.pv,.pv v.pv,.pv (.str p)] (bM false l) (.pv (.tup [])) (bM R.1 R.2):=by
 have hd0:=hd
 simp only[dep] at hd0
 have h84:=bF v (by omega) (by omega) (by omega)
 have h83:=fun c=>kx false l p c (by have:=hi.1;omega)
 have h86:=fc t.words v.text (by have:=ht;simp only[eq] at this;omega)
 have hvo:=hv
 have h83:=h83 4
 rw[aK,ir h hf hk hw ha,dh] at hR
 obtain⟨k,m,M,s,w,e,fs⟩:=t
 obtain⟨vk,vi,vs,vt,vl,vf⟩:=v
 simp only[dep,eq,Val.lst,Val.fields,Val.text,Typ.fields,Typ.words,Typ.elem,Typ.kind,Val.kind,Typ.min,Typ.max,Typ.scale,Val.num,Val.scale] at *
 obtain⟨d1,d2,d3,d4,d5⟩:=hd
 obtain⟨t1,t2,t3,t4⟩:=ht
 refine a8.intro Q81.2 (by simp[Q81]) ?_
 rw[Typ.pv_mk,Val.pv_mk] at *
 simp only[bM] at *
 have c:vk=4:=by omega
 subst hk c
 rw[<- hR] at h83
 rw[hf] at h84
 rw[ha] at h86
 have hz:(0:Int)<w.length:=by omega
 simp(disch:=try exact dI) only[Q81,push_cast,seval]
 refine ab.pure h84 rfl ?_
 refine zgZ ?_
 refine ab.pure h86 rfl ?_
 refine zgZ ?_
 refine ab.lentK h83 [0,1] rfl qsZ qsZ ?_
 refine zgZ ?_
 exact aG [] qsZ
theorem A5 (ih:KB)(t:Typ)(v:Val)(p:List UInt8)(l:List Mis)(R:Bool×List Mis)(hd:dep 2 v)(ht:eq 2 t)(hsc:∀ g∈t.fields,g.typ.kind<=7)(hv:v.ok)(hp:p.length<=1000)(hi:nj false l)(hR:R=dw false l (bq 2 t v p))(h:¬ (t.kind<1\/10<t.kind\/¬ v.kind=t.kind))(hf:ae v=true)(hk:t.kind=9) :
  a8 Tryz.prog au 2 81 [.ptr 0 0,.pv t.pv,.pv v.pv,.pv (.str p)] (bM false l) (.pv (.tup [])) (bM R.1 R.2):=by
 have hd0:=hd
 simp only[dep] at hd0
 have h84:=bF v (by omega) (by omega) (by omega)
 have h88:=fun h9 hR=>yu ih t v p false l R hd ht hsc hv h9 hp hi hR
 have hvo:=hv
 rw[aK,jR h hf hk] at hR
 have h88:=h88 (by omega) hR
 obtain⟨k,m,M,s,w,e,fs⟩:=t
 obtain⟨vk,vi,vs,vt,vl,vf⟩:=v
 simp only[dep,eq,Val.lst,Val.fields,Val.text,Typ.fields,Typ.words,Typ.elem,Typ.kind,Val.kind,Typ.min,Typ.max,Typ.scale,Val.num,Val.scale] at *
 obtain⟨d1,d2,d3,d4,d5⟩:=hd
 obtain⟨t1,t2,t3,t4⟩:=ht
 refine a8.intro Q81.2 (by simp[Q81]) ?_
 rw[Typ.pv_mk,Val.pv_mk] at *
 simp only[bM] at *
 have c:vk=9:=by omega
 subst hk c
 rw[hf] at h84
 simp(disch:=try exact dI) only[Q81,push_cast,seval]
 refine ab.pure h84 rfl ?_
 refine zgZ ?_
 refine ab.lentK h88 [0,1] rfl qsZ qsZ ?_
 refine zgZ ?_
 exact aG [] qsZ
theorem A4:KB:=by
 intro t v p d l R hd ht h7 hv hp hi hR
 cases d with
 | true=>
   rw[kw] at hR;subst hR
   obtain⟨k,m,M,s,w,e,fs⟩:=t
   obtain⟨vk,vi,vs,vt,vl,vf⟩:=v
   refine a8.intro Q81.2 (by simp[Q81]) ?_
   simp(disch:=try exact dI) only[Q81,bM,Typ.pv_mk,Val.pv_mk,push_cast,seval]
   exact aG [] qsZ
 | false=>
   by_cases h:t.kind<1\/10<t.kind\/¬ v.kind=t.kind
   ·exact iw 0 t v p l R hd ht hv hp hi hR h
   ·by_cases hf:ae v=false
    ·exact j4 0 t v p l R hd ht hv hp hi hR h hf
    ·have hf:ae v=true:=by simpa using hf
     have hk:t.kind=1\/t.kind=2\/t.kind=3\/t.kind=4\/t.kind=5\/t.kind=6\/t.kind=7:=by omega
     rcases hk with hk | hk | hk | hk | hk | hk | hk
     ·exact Bc 0 t v p l R hd ht hv hp hi hR h hf hk
     ·exact Bb 0 t v p l R hd ht hv hp hi hR h hf hk
     ·by_cases hs:v.scale=t.scale
      ·exact vu 0 t v p l R hd ht hv hp hi hR h hf hk hs
      ·exact Ba 0 t v p l R hd ht hv hp hi hR h hf hk hs
     ·by_cases hw:t.words.length=0
      ·exact A9 0 t v p l R hd ht hv hp hi hR h hf hk hw
      ·cases ha:(t.words.any fun x=>decide (x=v.text)) with
       | true=>exact vq 0 t v p l R hd ht hv hp hi hR h hf hk (by omega) ha
       | false=>exact vr 0 t v p l R hd ht hv hp hi hR h hf hk (by omega) ha
     ·exact A8 0 t v p l R hd ht hv hp hi hR h hf hk
     ·exact A7 0 t v p l R hd ht hv hp hi hR h hf hk
     ·exact A6 0 t v p l R hd ht hv hp hi hR h hf hk
theorem JI (t:Typ)(v:Val)(R:Bool×List Mis)(hd:dep 2 v)(ht:eq 2 t)(h9:t.kind=9)(hsc:∀ g∈t.fields,g.typ.kind<=7)(hv:v.ok)(hR:R=dw false [] (bq 2 t v [])) :
  a8 Tryz.prog au 2 81 [.ptr 0 0,.pv t.pv,.pv v.pv,.pv (.str [])] (bM false []) (.pv (.tup [])) (bM R.1 R.2):=by
 have hi:nj false []:=⟨by simp,by simp⟩
 by_cases h:t.kind<1\/10<t.kind\/¬ v.kind=t.kind
 ·exact iw 1 t v [] [] R hd ht hv (by simp) hi hR h
 ·by_cases hf:ae v=false
  ·exact j4 1 t v [] [] R hd ht hv (by simp) hi hR h hf
  ·exact A5 A4 t v [] [] R hd ht hsc hv (by simp) hi hR h (by simpa using hf) h9
theorem Cr (a l:List Mis):(dw false l a).1=!a.isEmpty:=by
 cases a with
 | nil=>rfl
 | cons m r=>rw[dw,gB,kw];rfl
theorem Mz (t:Typ)(v:Val)(ht:eq 2 t)(h9:t.kind=9)(hsc:∀ g∈t.fields,g.typ.kind<=7)(hv:v.ok):ag Tryz.prog au 42 [t.pv,v.pv] (.bool (bq 2 t v []).isEmpty):=by
 have h56:=JI t v _ (sP 2 v hv) ht h9 hsc hv rfl
 have e:=Cr (bq 2 t v []) []
 generalize dw false [] (bq 2 t v [])=S at *
 obtain⟨Sd,Sl⟩:=S
 simp only at e
 have e2:(bq 2 t v []).isEmpty=!Sd:=by rw[e,Bool.not_not]
 rw[e2]
 obtain⟨k,m,M,s,w,e,fs⟩:=t
 obtain⟨vk,vi,vs,vt,vl,vf⟩:=v
 simp only[bM,Typ.pv_mk,Val.pv_mk,List.map_nil] at h56
 refine ag.intro Q42.2 (by simp[Q42]) ?_
 simp(disch:=try exact dI) only[Q42,Typ.pv_mk,Val.pv_mk,push_cast,seval]
 refine ab.lentK h56 [4,2] rfl qsZ qsZ ?_
 exact qsZ
end Go.Proofs.YtbojpfpliibfbaaGreatDoor
