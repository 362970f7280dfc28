/- A part of the proof. -/
import Derived.Test.YtbojpfpliibfbaaGreatDoorEnRWJ
set_option maxRecDepth 100000
set_option linter.unusedVariables false
set_option linter.unusedSimpArgs false
namespace Go.Proofs.YtbojpfpliibfbaaGreatDoor
open Go Go.Ab
attribute [local irreducible] vc
def ig:Bool->List Mis->Mis->Bool×List Mis
 | true,l,_=>(true,l)
 | false,l,m=>(true,l++[m])
def d8:Bool->List Mis->List Mis->Bool×List Mis
 | d,l,[]=>(d,l)
 | d,l,m::r=>d8 (ig d l m).1 (ig d l m).2 r
def cx (d:Bool)(l:List Mis):List Blk:=[.cells 122 true [.clo 80 [] [.ptr 1 0],.pv (.bool d)],.cells 4 true [.pv (.bool (!d))]]
theorem Qi (d:Bool)(m:Mis):bn Tryz.prog az 1 80 [.pv m.pv,.ptr 0 0] [.cells 4 true [.pv (.bool d)]] (.pv (.bool false)) [.cells 4 true [.pv (.bool false)]]:=by
 obtain⟨p,c⟩:=m
 refine bn.intro Q80.2 (by simp[Q80]) ?_
 simp(disch:=try exact dI) only[Q80,Mis.pv_mk,push_cast,seval]
 exact aL [] qsZ
theorem kQ (d:Bool)(l:List Mis)(p:List UInt8)(c:Int)(hl:l.length<=100000):bn Tryz.prog az 2 134 [.ptr 0 0,.pv (.str p),.pv (.int .i64 c)] (cx d l) (.pv (.tup [])) (cx (ig d l (.mk p c)).1 (ig d l (.mk p c)).2):=by
 have h63:=Qi true (.mk p c)
 rw[Mis.pv_mk] at h63
 refine bn.intro NC.2 (by simp[NC]) ?_
 cases d with
 | true=>
   rw[ig]
   simp(disch:=try exact dI) only[NC,cx,push_cast,seval]
   exact aL [] qsZ
 | false=>
   rw[ig]
   simp(disch:=try exact dI) only[NC,cx,push_cast,seval]
   refine ab.lentK h63 [1] rfl qsZ qsZ ?_
   refine zgZ ?_
   exact aL [] qsZ
theorem dS (d:Bool)(l:List Mis)(m:Mis):d8 d l [m]=ig d l m:=rfl
theorem g9 (d:Bool)(l:List Mis):d8 d l []=(d,l):=rfl
theorem jz:∀ (a b:List Mis) (d:Bool) (l:List Mis),d8 d l (a++b)=d8 (d8 d l a).1 (d8 d l a).2 b
 | [],b,d,l=>rfl
 | m::r,b,d,l=>by rw[List.cons_append,d8,jz r b,d8]
theorem kP:∀ (a:List Mis) (l:List Mis),d8 true l a=(true,l)
 | [],l=>rfl
 | m::r,l=>by rw[d8,ig];exact kP r l
theorem lu (d:Bool)(l:List Mis)(t:Typ)(p:List UInt8)(n:Int)(hl:l.length<=100000)(R:Bool×List Mis)(hR:R=d8 d l (rK t.min t.max p n)) :
  bn Tryz.prog az 2 136 [.ptr 0 0,.pv t.pv,.pv (.str p),.pv (.int .i64 n)] (cx d l) (.pv (.tup [])) (cx R.1 R.2):=by
 have h83:=kQ d l p 2 hl
 obtain⟨k,m,M,s,w,e,f⟩:=t
 simp only[Typ.min,Typ.max] at hR
 refine bn.intro M9.2 (by simp[M9]) ?_
 unfold cx at h83 ⊢
 by_cases h1:n<m
 ·rw[dN (.inl h1),dS] at hR
  rw[<- hR] at h83
  simp(disch:=try exact dI) only[M9,Typ.pv_mk,push_cast,seval]
  refine ab.lentK h83 [0,1] rfl qsZ qsZ ?_
  refine zgZ ?_
  exact aL [] qsZ
 ·by_cases h2:M<n
  ·rw[dN (.inr h2),dS] at hR
   rw[<- hR] at h83
   simp(disch:=try exact dI) only[M9,Typ.pv_mk,push_cast,seval]
   refine ab.lentK h83 [0,1] rfl qsZ qsZ ?_
   refine zgZ ?_
   exact aL [] qsZ
  ·rw[j0 (fun h=>h.elim h1 h2),g9] at hR
   subst hR
   simp(disch:=try exact dI) only[M9,Typ.pv_mk,push_cast,seval]
   exact aL [] qsZ
theorem uN {d:Bool}{l:List Mis}(h:Og d l)(m:Mis):Og (ig d l m).1 (ig d l m).2:=by
 cases d with
 | true=>exact h
 | false=>
   have:=h.2 rfl
   exact⟨by simp[ig];omega,fun hh=>by simp[ig] at hh⟩
def nl:=Og
theorem js:∀ (a:List Mis) {d:Bool} {l:List Mis},nl d l->nl (d8 d l a).1 (d8 d l a).2
 | [],d,l,h=>h
 | m::r,d,l,h=>js r (uN h m)
def Ka:Prop:=∀ (t:Typ) (v:Val) (p:List UInt8) (d:Bool) (l:List Mis) (R:Bool×List Mis),dep 1 v->bM 1 t->t.kind<=7->v.ok->p.length<=2000->nl d l->R=d8 d l (aT 1 t v p) ->
 bn Tryz.prog az 2 81 [.ptr 0 0,.pv t.pv,.pv v.pv,.pv (.str p)] (cx d l) (.pv (.tup [])) (cx R.1 R.2)
theorem xU (ih:Ka)(t:Typ)(v:Val)(p:List UInt8)(d:Bool)(l:List Mis)(R:Bool×List Mis)(hd:dep 2 v)(ht:bM 2 t)(hsc:∀ g∈t.fields,g.typ.kind<=7)(hv:v.ok)(hk:v.kind=9)(hp:p.length<=1000)(hi:nl d l)(hR:R=d8 d l (H4 (aT 1) t v p)) :
  bn Tryz.prog az 2 138 [.ptr 0 0,.pv t.pv,.pv v.pv,.pv (.str p)] (cx d l) (.pv (.tup [])) (cx R.1 R.2):=by
 have h113:=fun name=>mQ v name hv hk
 have h89:=fun name=>py t name
 obtain⟨k,m,M,s,w,e,fs⟩:=t
 obtain⟨vk,vi,vs,vt,vl,vf⟩:=v
 simp only[dep,bM,Val.lst,Val.fields,Val.text,Typ.fields,Typ.words,Typ.elem,H4] at hd ht hR h113 h89 hsc
 obtain⟨d1,d2,d3,d4,d5⟩:=hd
 obtain⟨t1,t2,t3,t4⟩:=ht
 rw[Val.ok_mk] at hv
 refine bn.intro PG.2 (by simp[PG]) ?_
 rw[Typ.pv_mk,Val.pv_mk] at *
 generalize hF1:eo (aT 1) vf p=F1 at hR
 generalize hF2:eQ fs p=F2 at hR
 simp(disch:=try exact dI) only[PG,cx,push_cast,seval]
 refine au ([]) (fun i:Nat=>[(19,.pv (.int .i64 (i:Int)))]) (fun i=>[(0,.cells 122 true [.clo 80 [] [.ptr 1 0],.pv (.bool (d8 d l ((fs.take i).flatMap F1)).1)]),(1,.cells 4 true [.pv (.bool (!(d8 d l ((fs.take i).flatMap F1)).1))])]) (fun i=>i<=fs.length) (fun i=>fs.length - i) (0) ?_;intro e0 σ0 n0 h0;simp(disch:=try exact dI) only[push_cast,seval] at h0;obtain⟨rfl,rfl,rfl⟩:=h0;refine⟨?_,?_,?_⟩
 ·simp(disch:=try exact dI) only[d8,List.flatMap_nil,push_cast,seval]
 ·omega
 ·intro i hi2
  by_cases hlt:i<fs.length
  ·have hltI:(i:Int)<fs.length:=by omega
   obtain⟨x,hx⟩:∃ x,fs[i]? = some x:=⟨_,List.getElem?_eq_getElem hlt⟩
   have hsn:=gQ F1 hx
   have hinv:=js ((fs.take i).flatMap F1) hi
   have happ:=jz ((fs.take i).flatMap F1) (F1 x) d l
   rw[<- hsn] at happ
   generalize d8 d l ((fs.take i).flatMap F1)=S at *
   obtain⟨Sd,Sl⟩:=S
   simp only at hinv happ
   obtain⟨hxn,hxt⟩:=t4 x (List.mem_of_getElem? hx)
   have hxk:=hsc x (List.mem_of_getElem? hx)
   have hF1x:F1 x=eo (aT 1) vf p x:=by rw[hF1]
   obtain⟨x1,x2,x3,⟨y1,y2,y3,y4,y5,y6,y7⟩,x5⟩:=x
   simp only[TFd.name,TFd.typ] at hxn hxt hxk
   have hc:=h113 x2 (by omega)
   have hul:=fC p x2
   have hu:=rh p x2 (by omega) (by omega)
   cases hfd:vf.find? (bc x2) with
   | some y=>
     rw[hfd] at hc
     rw[eJ (by exact hfd)] at hF1x
     have hym:=List.mem_of_find?_eq_some hfd
     have hyd:=(d5 y hym).2
     have hyo:=hv.2.2.2.2.2.2.2 y hym
     obtain⟨yn,yv⟩:=y
     rw[Fld.ok_mk] at hyo
     simp only[Fld.value,TFd.typ,TFd.name] at hyd hF1x
     have hih:=ih (.mk y1 y2 y3 y4 y5 y6 y7) yv (cp p x2) Sd Sl _ hyd hxt hxk hyo.2 (by omega) hinv rfl
     rw[<- hF1x,<- happ] at hih
     obtain⟨z1,z2,z3,z4,z5,z6⟩:=yv
     simp only[vlR,Option.map_some,Option.getD_some,Option.isSome_some,Fld.value,Val.pv_mk] at hc
     simp only[cx,Typ.pv_mk,Val.pv_mk] at hih
     simp(disch:=try exact dI) only[hx,TFd.pv_mk,Typ.pv_mk,push_cast,seval]
     refine ab.pure hc rfl ?_
     simp(disch:=try exact dI) only[TFd.pv_mk,Typ.pv_mk,push_cast,seval]
     refine ap hu rfl ?_
     refine zgZ ?_
     refine ab.lentK hih [0,1] rfl qsZ qsZ ?_
     refine zgZ ?_
     exact⟨i+1,aM qsZ,by omega,by omega⟩
   | none=>
     rw[hfd] at hc
     simp only[vlR,Option.map_none,Option.getD_none,Option.isSome_none,nr,Val.pv_mk,List.map_nil] at hc
     by_cases hn:x3=2
     ·rw[iG (by exact hfd) (by exact hn)] at hF1x
      rw[hF1x,g9] at happ
      simp(disch:=try exact dI) only[hx,TFd.pv_mk,Typ.pv_mk,hn,push_cast,seval]
      refine ab.pure hc rfl ?_
      simp(disch:=try exact dI) only[TFd.pv_mk,Typ.pv_mk,push_cast,seval]
      exact⟨i+1,aM (by simp(disch:=try exact dI) only[happ,push_cast,seval]),by omega,by omega⟩
     ·rw[gl (by exact hfd) (by exact hn)] at hF1x
      simp only[TFd.name] at hF1x
      rw[hF1x,dS] at happ
      have h83:=kQ Sd Sl (cp p x2) 5 (by have:=hinv.1;omega)
      rw[<- happ] at h83
      simp only[cx] at h83
      simp(disch:=try exact dI) only[hx,TFd.pv_mk,Typ.pv_mk,push_cast,seval]
      refine ab.pure hc rfl ?_
      simp(disch:=try exact dI) only[TFd.pv_mk,Typ.pv_mk,push_cast,seval]
      refine ab.pure hu rfl ?_
      refine zgZ ?_
      refine ab.lentK h83 [0,1] rfl qsZ qsZ ?_
      refine zgZ ?_
      exact⟨i+1,aM qsZ,by omega,by omega⟩
  ·have hltI:¬ (i:Int)<fs.length:=by omega
   have hinv:=js (fs.flatMap F1) hi
   rw[jz] at hR
   rw[ji hlt]
   generalize d8 d l (fs.flatMap F1)=S at *
   obtain⟨Sd,Sl⟩:=S
   simp only at hinv hR
   refine zgZ ?_
   refine au ([]) (fun i:Nat=>[(53,.pv (.int .i64 (i:Int)))]) (fun i=>[(0,.cells 122 true [.clo 80 [] [.ptr 1 0],.pv (.bool (d8 Sd Sl ((vf.take i).flatMap F2)).1)]),(1,.cells 4 true [.pv (.bool (!(d8 Sd Sl ((vf.take i).flatMap F2)).1))])]) (fun i=>i<=vf.length) (fun i=>vf.length - i) (0) ?_;intro e0 σ0 n0 h0;simp(disch:=try exact dI) only[push_cast,seval] at h0;obtain⟨rfl,rfl,rfl⟩:=h0;refine⟨?_,?_,?_⟩
   ·simp(disch:=try exact dI) only[d8,List.flatMap_nil,push_cast,seval]
   ·omega
   ·intro i hi2
    by_cases hlt:i<vf.length
    ·have hltI:(i:Int)<vf.length:=by omega
     obtain⟨x,hx⟩:∃ x,vf[i]? = some x:=⟨_,List.getElem?_eq_getElem hlt⟩
     have hsn:=gQ F2 hx
     have hinv2:=js ((vf.take i).flatMap F2) hinv
     have happ:=jz ((vf.take i).flatMap F2) (F2 x) Sd Sl
     rw[<- hsn] at happ
     generalize d8 Sd Sl ((vf.take i).flatMap F2)=T at *
     obtain⟨Td,Tl⟩:=T
     simp only at hinv2 happ
     have hxn:=(d5 x (List.mem_of_getElem? hx)).1
     have hF2x:F2 x=eQ fs p x:=by rw[hF2]
     obtain⟨x1,⟨y1,y2,y3,y4,y5,y6⟩⟩:=x
     simp only[Fld.name] at hxn
     have hc:=h89 x1 (by omega)
     have hul:=fC p x1
     have hu:=rh p x1 (by omega) (by omega)
     cases hfd:fs.find? (named x1) with
     | some z=>
       rw[hfd] at hc
       rw[j1 (by exact hfd)] at hF2x
       rw[hF2x,g9] at happ
       obtain⟨z1,z2,z3,⟨w1,w2,w3,w4,w5,w6,w7⟩,z5⟩:=z
       simp only[tfR,Option.getD_some,Option.isSome_some,TFd.pv_mk,Typ.pv_mk] at hc
       simp(disch:=try exact dI) only[hx,Fld.pv_mk,Val.pv_mk,push_cast,seval]
       refine ab.pure hc rfl ?_
       refine zgZ ?_
       exact⟨i+1,aM (by simp(disch:=try exact dI) only[happ,push_cast,seval]),by omega,by omega⟩
     | none=>
       rw[hfd] at hc
       rw[j2 (by exact hfd)] at hF2x
       simp only[Fld.name] at hF2x
       rw[hF2x,dS] at happ
       have h83:=kQ Td Tl (cp p x1) 6 (by have:=hinv2.1;omega)
       rw[<- happ] at h83
       simp only[cx] at h83
       simp only[tfR,Option.getD_none,Option.isSome_none,fW,TFd.pv_mk,Typ.pv_mk,List.map_nil] at hc
       simp(disch:=try exact dI) only[hx,Fld.pv_mk,Val.pv_mk,push_cast,seval]
       refine ab.pure hc rfl ?_
       refine zgZ ?_
       refine ab.pure hu rfl ?_
       refine zgZ ?_
       refine ab.lentK h83 [0,1] rfl qsZ qsZ ?_
       refine zgZ ?_
       exact⟨i+1,aM qsZ,by omega,by omega⟩
    ·have hltI:¬ (i:Int)<vf.length:=by omega
     rw[ji hlt]
     rw[<- hR]
     refine zgZ ?_
     exact aL [] qsZ
theorem iS (n:Nat)(t:Typ)(v:Val)(p:List UInt8)(l:List Mis)(R:Bool×List Mis)(hd:dep (n+1) v)(ht:bM (n+1) t)(hv:v.ok)(hp:p.length<=2000)(hi:nl false l)(hR:R=d8 false l (aT (n+1) t v p))(h:t.kind<1\/10<t.kind\/¬ v.kind=t.kind) :
  bn Tryz.prog az 2 81 [.ptr 0 0,.pv t.pv,.pv v.pv,.pv (.str p)] (cx false l) (.pv (.tup [])) (cx R.1 R.2):=by
 have hd0:=hd
 simp only[dep] at hd0
 have h83:=fun c=>kQ false l p c (by have:=hi.1;omega)
 have hvo:=hv
 have h83:=h83 1
 rw[aG,eh h,dS] at hR
 obtain⟨k,m,M,s,w,e,fs⟩:=t
 obtain⟨vk,vi,vs,vt,vl,vf⟩:=v
 simp only[dep,bM,Val.lst,Val.fields,Val.text,Typ.fields,Typ.words,Typ.elem,Typ.kind,Val.kind,Typ.min,Typ.max,Typ.scale,Val.num,Val.scale] at *
 obtain⟨d1,d2,d3,d4,d5⟩:=hd
 obtain⟨t1,t2,t3,t4⟩:=ht
 refine bn.intro Q81.2 (by simp[Q81]) ?_
 rw[Typ.pv_mk,Val.pv_mk] at *
 simp only[cx] at *
 rw[<- hR] at h83
 by_cases a:k<1
 ·simp(disch:=try exact dI) only[Q81,a,push_cast,seval]
  refine ab.lentK h83 [0,1] rfl qsZ qsZ ?_
  refine zgZ ?_
  exact aL [] qsZ
 ·by_cases b:10<k
  ·simp(disch:=try exact dI) only[Q81,a,b,push_cast,seval]
   refine ab.lentK h83 [0,1] rfl qsZ qsZ ?_
   refine zgZ ?_
   exact aL [] qsZ
  ·have c:¬ vk=k:=by omega
   simp(disch:=try exact dI) only[Q81,a,b,c,push_cast,seval]
   refine ab.lentK h83 [0,1] rfl qsZ qsZ ?_
   refine zgZ ?_
   exact aL [] qsZ
theorem kv (n:Nat)(t:Typ)(v:Val)(p:List UInt8)(l:List Mis)(R:Bool×List Mis)(hd:dep (n+1) v)(ht:bM (n+1) t)(hv:v.ok)(hp:p.length<=2000)(hi:nl false l)(hR:R=d8 false l (aT (n+1) t v p))(h:¬ (t.kind<1\/10<t.kind\/¬ v.kind=t.kind))(hf:ae v=false) :
  bn Tryz.prog az 2 81 [.ptr 0 0,.pv t.pv,.pv v.pv,.pv (.str p)] (cx false l) (.pv (.tup [])) (cx R.1 R.2):=by
 have hd0:=hd
 simp only[dep] at hd0
 have h84:=cb v (by omega) (by omega) (by omega)
 have h83:=fun c=>kQ false l p c (by have:=hi.1;omega)
 have hvo:=hv
 have h83:=h83 8
 rw[aG,gL h hf,dS] at hR
 obtain⟨k,m,M,s,w,e,fs⟩:=t
 obtain⟨vk,vi,vs,vt,vl,vf⟩:=v
 simp only[dep,bM,Val.lst,Val.fields,Val.text,Typ.fields,Typ.words,Typ.elem,Typ.kind,Val.kind,Typ.min,Typ.max,Typ.scale,Val.num,Val.scale] at *
 obtain⟨d1,d2,d3,d4,d5⟩:=hd
 obtain⟨t1,t2,t3,t4⟩:=ht
 refine bn.intro Q81.2 (by simp[Q81]) ?_
 rw[Typ.pv_mk,Val.pv_mk] at *
 simp only[cx] at *
 have a:¬ k<1:=by omega
 have b:¬ 10<k:=by omega
 have c:vk=k:=by omega
 subst c
 rw[<- hR] at h83
 rw[hf] at h84
 simp(disch:=try exact dI) only[Q81,a,b,push_cast,seval]
 refine ab.pure h84 rfl ?_
 refine zgZ ?_
 refine ab.lentK h83 [0,1] rfl qsZ qsZ ?_
 refine zgZ ?_
 exact aL [] qsZ
theorem AG (n:Nat)(t:Typ)(v:Val)(p:List UInt8)(l:List Mis)(R:Bool×List Mis)(hd:dep (n+1) v)(ht:bM (n+1) t)(hv:v.ok)(hp:p.length<=2000)(hi:nl false l)(hR:R=d8 false l (aT (n+1) t v p))(h:¬ (t.kind<1\/10<t.kind\/¬ v.kind=t.kind))(hf:ae v=true)(hk:t.kind=2) :
  bn Tryz.prog az 2 81 [.ptr 0 0,.pv t.pv,.pv v.pv,.pv (.str p)] (cx false l) (.pv (.tup [])) (cx R.1 R.2):=by
 have hd0:=hd
 simp only[dep] at hd0
 have h84:=cb v (by omega) (by omega) (by omega)
 have h85:=fun k=>lu false l t p k (by have:=hi.1;omega) _ rfl
 have hvo:=hv
 have h85:=h85 v.num
 rw[aG,cU h hf (by omega)] at hR
 obtain⟨k,m,M,s,w,e,fs⟩:=t
 obtain⟨vk,vi,vs,vt,vl,vf⟩:=v
 simp only[dep,bM,Val.lst,Val.fields,Val.text,Typ.fields,Typ.words,Typ.elem,Typ.kind,Val.kind,Typ.min,Typ.max,Typ.scale,Val.num,Val.scale] at *
 obtain⟨d1,d2,d3,d4,d5⟩:=hd
 obtain⟨t1,t2,t3,t4⟩:=ht
 refine bn.intro Q81.2 (by simp[Q81]) ?_
 rw[Typ.pv_mk,Val.pv_mk] at *
 simp only[cx] at *
 have c:vk=2:=by omega
 subst hk c
 rw[<- hR] at h85
 rw[hf] at h84
 simp(disch:=try exact dI) only[Q81,push_cast,seval]
 refine ab.pure h84 rfl ?_
 refine zgZ ?_
 refine ab.lentK h85 [0,1] rfl qsZ qsZ ?_
 refine zgZ ?_
 exact aL [] qsZ
theorem AC (n:Nat)(t:Typ)(v:Val)(p:List UInt8)(l:List Mis)(R:Bool×List Mis)(hd:dep (n+1) v)(ht:bM (n+1) t)(hv:v.ok)(hp:p.length<=2000)(hi:nl false l)(hR:R=d8 false l (aT (n+1) t v p))(h:¬ (t.kind<1\/10<t.kind\/¬ v.kind=t.kind))(hf:ae v=true)(hk:t.kind=6) :
  bn Tryz.prog az 2 81 [.ptr 0 0,.pv t.pv,.pv v.pv,.pv (.str p)] (cx false l) (.pv (.tup [])) (cx R.1 R.2):=by
 have hd0:=hd
 simp only[dep] at hd0
 have h84:=cb v (by omega) (by omega) (by omega)
 have h85:=fun k=>lu false l t p k (by have:=hi.1;omega) _ rfl
 have hvo:=hv
 have h85:=h85 v.num
 rw[aG,cU h hf (by omega)] at hR
 obtain⟨k,m,M,s,w,e,fs⟩:=t
 obtain⟨vk,vi,vs,vt,vl,vf⟩:=v
 simp only[dep,bM,Val.lst,Val.fields,Val.text,Typ.fields,Typ.words,Typ.elem,Typ.kind,Val.kind,Typ.min,Typ.max,Typ.scale,Val.num,Val.scale] at *
 obtain⟨d1,d2,d3,d4,d5⟩:=hd
 obtain⟨t1,t2,t3,t4⟩:=ht
 refine bn.intro Q81.2 (by simp[Q81]) ?_
 rw[Typ.pv_mk,Val.pv_mk] at *
 simp only[cx] at *
 have c:vk=6:=by omega
 subst hk c
 rw[<- hR] at h85
 rw[hf] at h84
 simp(disch:=try exact dI) only[Q81,push_cast,seval]
 refine ab.pure h84 rfl ?_
 refine zgZ ?_
 refine ab.lentK h85 [0,1] rfl qsZ qsZ ?_
 refine zgZ ?_
 exact aL [] qsZ
theorem AB (n:Nat)(t:Typ)(v:Val)(p:List UInt8)(l:List Mis)(R:Bool×List Mis)(hd:dep (n+1) v)(ht:bM (n+1) t)(hv:v.ok)(hp:p.length<=2000)(hi:nl false l)(hR:R=d8 false l (aT (n+1) t v p))(h:¬ (t.kind<1\/10<t.kind\/¬ v.kind=t.kind))(hf:ae v=true)(hk:t.kind=7) :
  bn Tryz.prog az 2 81 [.ptr 0 0,.pv t.pv,.pv v.pv,.pv (.str p)] (cx false l) (.pv (.tup [])) (cx R.1 R.2):=by
 have hd0:=hd
 simp only[dep] at hd0
 have h84:=cb v (by omega) (by omega) (by omega)
 have h85:=fun k=>lu false l t p k (by have:=hi.1;omega) _ rfl
 have hvo:=hv
 have h85:=h85 v.num
 rw[aG,cU h hf (by omega)] at hR
 obtain⟨k,m,M,s,w,e,fs⟩:=t
 obtain⟨vk,vi,vs,vt,vl,vf⟩:=v
 simp only[dep,bM,Val.lst,Val.fields,Val.text,Typ.fields,Typ.words,Typ.elem,Typ.kind,Val.kind,Typ.min,Typ.max,Typ.scale,Val.num,Val.scale] at *
 obtain⟨d1,d2,d3,d4,d5⟩:=hd
 obtain⟨t1,t2,t3,t4⟩:=ht
 refine bn.intro Q81.2 (by simp[Q81]) ?_
 rw[Typ.pv_mk,Val.pv_mk] at *
 simp only[cx] at *
 have c:vk=7:=by omega
 subst hk c
 rw[<- hR] at h85
 rw[hf] at h84
 simp(disch:=try exact dI) only[Q81,push_cast,seval]
 refine ab.pure h84 rfl ?_
 refine zgZ ?_
 refine ab.lentK h85 [0,1] rfl qsZ qsZ ?_
 refine zgZ ?_
 exact aL [] qsZ
theorem AH (n:Nat)(t:Typ)(v:Val)(p:List UInt8)(l:List Mis)(R:Bool×List Mis)(hd:dep (n+1) v)(ht:bM (n+1) t)(hv:v.ok)(hp:p.length<=2000)(hi:nl false l)(hR:R=d8 false l (aT (n+1) t v p))(h:¬ (t.kind<1\/10<t.kind\/¬ v.kind=t.kind))(hf:ae v=true)(hk:t.kind=1) :
  bn Tryz.prog az 2 81 [.ptr 0 0,.pv t.pv,.pv v.pv,.pv (.str p)] (cx false l) (.pv (.tup [])) (cx R.1 R.2):=by
 have hd0:=hd
 simp only[dep] at hd0
 have h84:=cb v (by omega) (by omega) (by omega)
 have hvo:=hv
 rw[aG,lC h hf hk,g9] at hR
 obtain⟨k,m,M,s,w,e,fs⟩:=t
 obtain⟨vk,vi,vs,vt,vl,vf⟩:=v
 simp only[dep,bM,Val.lst,Val.fields,Val.text,Typ.fields,Typ.words,Typ.elem,Typ.kind,Val.kind,Typ.min,Typ.max,Typ.scale,Val.num,Val.scale] at *
 obtain⟨d1,d2,d3,d4,d5⟩:=hd
 obtain⟨t1,t2,t3,t4⟩:=ht
 refine bn.intro Q81.2 (by simp[Q81]) ?_
 rw[Typ.pv_mk,Val.pv_mk] at *
 simp only[cx] at *
 have c:vk=1:=by omega
 subst hk c hR
 rw[hf] at h84
 simp(disch:=try exact dI) only[Q81,push_cast,seval]
 refine ab.pure h84 rfl ?_
 refine zgZ ?_
 exact aL [] qsZ
theorem uZ (n:Nat)(t:Typ)(v:Val)(p:List UInt8)(l:List Mis)(R:Bool×List Mis)(hd:dep (n+1) v)(ht:bM (n+1) t)(hv:v.ok)(hp:p.length<=2000)(hi:nl false l)(hR:R=d8 false l (aT (n+1) t v p))(h:¬ (t.kind<1\/10<t.kind\/¬ v.kind=t.kind))(hf:ae v=true)(hk:t.kind=3)(hs:v.scale=t.scale) :
  bn Tryz.prog az 2 81 [.ptr 0 0,.pv t.pv,.pv v.pv,.pv (.str p)] (cx false l) (.pv (.tup [])) (cx R.1 R.2):=by
 have hd0:=hd
 simp only[dep] at hd0
 have h84:=cb v (by omega) (by omega) (by omega)
 have h85:=fun k=>lu false l t p k (by have:=hi.1;omega) _ rfl
 have hvo:=hv
 have h85:=h85 v.num
 rw[aG,ka h hf hk hs] at hR
 obtain⟨k,m,M,s,w,e,fs⟩:=t
 obtain⟨vk,vi,vs,vt,vl,vf⟩:=v
 simp only[dep,bM,Val.lst,Val.fields,Val.text,Typ.fields,Typ.words,Typ.elem,Typ.kind,Val.kind,Typ.min,Typ.max,Typ.scale,Val.num,Val.scale] at *
 obtain⟨d1,d2,d3,d4,d5⟩:=hd
 obtain⟨t1,t2,t3,t4⟩:=ht
 refine bn.intro Q81.2 (by simp[Q81]) ?_
 rw[Typ.pv_mk,Val.pv_mk] at *
 simp only[cx] at *
 have c:vk=3:=by omega
 subst hk c
 rw[<- hR] at h85
 rw[hf] at h84
 simp(disch:=try exact dI) only[Q81,push_cast,seval]
 refine ab.pure h84 rfl ?_
 simp(disch:=try exact dI) only[hs,push_cast,seval]
 refine ab.lentK h85 [0,1] rfl qsZ qsZ ?_
 refine zgZ ?_
 exact aL [] qsZ
theorem AF (n:Nat)(t:Typ)(v:Val)(p:List UInt8)(l:List Mis)(R:Bool×List Mis)(hd:dep (n+1) v)(ht:bM (n+1) t)(hv:v.ok)(hp:p.length<=2000)(hi:nl false l)(hR:R=d8 false l (aT (n+1) t v p))(h:¬ (t.kind<1\/10<t.kind\/¬ v.kind=t.kind))(hf:ae v=true)(hk:t.kind=3)(hs:¬ v.scale=t.scale) :
  bn Tryz.prog az 2 81 [.ptr 0 0,.pv t.pv,.pv v.pv,.pv (.str p)] (cx false l) (.pv (.tup [])) (cx R.1 R.2):=by
 have hd0:=hd
 simp only[dep] at hd0
 have h84:=cb v (by omega) (by omega) (by omega)
 have h83:=fun c=>kQ false l p c (by have:=hi.1;omega)
 have hvo:=hv
 have h83:=h83 3
 rw[aG,ga h hf hk hs,dS] at hR
 obtain⟨k,m,M,s,w,e,fs⟩:=t
 obtain⟨vk,vi,vs,vt,vl,vf⟩:=v
 simp only[dep,bM,Val.lst,Val.fields,Val.text,Typ.fields,Typ.words,Typ.elem,Typ.kind,Val.kind,Typ.min,Typ.max,Typ.scale,Val.num,Val.scale] at *
 obtain⟨d1,d2,d3,d4,d5⟩:=hd
 obtain⟨t1,t2,t3,t4⟩:=ht
 refine bn.intro Q81.2 (by simp[Q81]) ?_
 rw[Typ.pv_mk,Val.pv_mk] at *
 simp only[cx] at *
 have c:vk=3:=by omega
 subst hk c
 rw[<- hR] at h83
 rw[hf] at h84
 simp(disch:=try exact dI) only[Q81,push_cast,seval]
 refine ab.pure h84 rfl ?_
 simp(disch:=try exact dI) only[hs,push_cast,seval]
 refine ab.lentK h83 [0,1] rfl qsZ qsZ ?_
 refine zgZ ?_
 exact aL [] qsZ
theorem AD (n:Nat)(t:Typ)(v:Val)(p:List UInt8)(l:List Mis)(R:Bool×List Mis)(hd:dep (n+1) v)(ht:bM (n+1) t)(hv:v.ok)(hp:p.length<=2000)(hi:nl false l)(hR:R=d8 false l (aT (n+1) t v p))(h:¬ (t.kind<1\/10<t.kind\/¬ v.kind=t.kind))(hf:ae v=true)(hk:t.kind=5) :
  bn Tryz.prog az 2 81 [.ptr 0 0,.pv t.pv,.pv v.pv,.pv (.str p)] (cx false l) (.pv (.tup [])) (cx R.1 R.2):=by
 have hd0:=hd
 simp only[dep] at hd0
 have h84:=cb v (by omega) (by omega) (by omega)
 have h85:=fun k=>lu false l t p k (by have:=hi.1;omega) _ rfl
 have hvo:=hv
 have h85:=h85 v.text.length
 rw[aG,dp h hf (.inr hk) (by omega)] at hR
 obtain⟨k,m,M,s,w,e,fs⟩:=t
 obtain⟨vk,vi,vs,vt,vl,vf⟩:=v
 simp only[dep,bM,Val.lst,Val.fields,Val.text,Typ.fields,Typ.words,Typ.elem,Typ.kind,Val.kind,Typ.min,Typ.max,Typ.scale,Val.num,Val.scale] at *
 obtain⟨d1,d2,d3,d4,d5⟩:=hd
 obtain⟨t1,t2,t3,t4⟩:=ht
 refine bn.intro Q81.2 (by simp[Q81]) ?_
 rw[Typ.pv_mk,Val.pv_mk] at *
 simp only[cx] at *
 have c:vk=5:=by omega
 subst hk c
 rw[<- hR] at h85
 rw[hf] at h84
 simp(disch:=try exact dI) only[Q81,push_cast,seval]
 refine ab.pure h84 rfl ?_
 refine zgZ ?_
 refine ab.lentK h85 [0,1] rfl qsZ qsZ ?_
 refine zgZ ?_
 exact aL [] qsZ
theorem AE (n:Nat)(t:Typ)(v:Val)(p:List UInt8)(l:List Mis)(R:Bool×List Mis)(hd:dep (n+1) v)(ht:bM (n+1) t)(hv:v.ok)(hp:p.length<=2000)(hi:nl false l)(hR:R=d8 false l (aT (n+1) t v p))(h:¬ (t.kind<1\/10<t.kind\/¬ v.kind=t.kind))(hf:ae v=true)(hk:t.kind=4)(hw:t.words.length=0) :
  bn Tryz.prog az 2 81 [.ptr 0 0,.pv t.pv,.pv v.pv,.pv (.str p)] (cx false l) (.pv (.tup [])) (cx R.1 R.2):=by
 have hd0:=hd
 simp only[dep] at hd0
 have h84:=cb v (by omega) (by omega) (by omega)
 have h85:=fun k=>lu false l t p k (by have:=hi.1;omega) _ rfl
 have hvo:=hv
 have h85:=h85 v.text.length
 rw[aG,dp h hf (.inl hk) (fun _=>hw)] at hR
 obtain⟨k,m,M,s,w,e,fs⟩:=t
 obtain⟨vk,vi,vs,vt,vl,vf⟩:=v
 simp only[dep,bM,Val.lst,Val.fields,Val.text,Typ.fields,Typ.words,Typ.elem,Typ.kind,Val.kind,Typ.min,Typ.max,Typ.scale,Val.num,Val.scale] at *
 obtain⟨d1,d2,d3,d4,d5⟩:=hd
 obtain⟨t1,t2,t3,t4⟩:=ht
 refine bn.intro Q81.2 (by simp[Q81]) ?_
 rw[Typ.pv_mk,Val.pv_mk] at *
 simp only[cx] at *
 have c:vk=4:=by omega
 subst hk c
 rw[<- hR] at h85
 rw[hf] at h84
 have hz:¬ (0:Int)<w.length:=by omega
 simp(disch:=try exact dI) only[Q81,push_cast,seval]
 refine ab.pure h84 rfl ?_
 refine zgZ ?_
 refine ab.lentK h85 [0,1] rfl qsZ qsZ ?_
 refine zgZ ?_
 exact aL [] qsZ
theorem uX (n:Nat)(t:Typ)(v:Val)(p:List UInt8)(l:List Mis)(R:Bool×List Mis)(hd:dep (n+1) v)(ht:bM (n+1) t)(hv:v.ok)(hp:p.length<=2000)(hi:nl false l)(hR:R=d8 false l (aT (n+1) t v p))(h:¬ (t.kind<1\/10<t.kind\/¬ v.kind=t.kind))(hf:ae v=true)(hk:t.kind=4)(hw:0<t.words.length)(ha:(t.words.any fun x=>decide (x=v.text))=true) :
  bn Tryz.prog az 2 81 [.ptr 0 0,.pv t.pv,.pv v.pv,.pv (.str p)] (cx false l) (.pv (.tup [])) (cx R.1 R.2):=by
 have hd0:=hd
 simp only[dep] at hd0
 have h84:=cb v (by omega) (by omega) (by omega)
 have h86:=fL t.words v.text (by have:=ht;simp only[bM] at this;omega)
 have hvo:=hv
 rw[aG,lB h hf hk hw ha,g9] at hR
 obtain⟨k,m,M,s,w,e,fs⟩:=t
 obtain⟨vk,vi,vs,vt,vl,vf⟩:=v
 simp only[dep,bM,Val.lst,Val.fields,Val.text,Typ.fields,Typ.words,Typ.elem,Typ.kind,Val.kind,Typ.min,Typ.max,Typ.scale,Val.num,Val.scale] at *
 obtain⟨d1,d2,d3,d4,d5⟩:=hd
 obtain⟨t1,t2,t3,t4⟩:=ht
 refine bn.intro Q81.2 (by simp[Q81]) ?_
 rw[Typ.pv_mk,Val.pv_mk] at *
 simp only[cx] at *
 have c:vk=4:=by omega
 subst hk c hR
 rw[hf] at h84
 rw[ha] at h86
 have hz:(0:Int)<w.length:=by omega
 simp(disch:=try exact dI) only[Q81,push_cast,seval]
 refine ab.pure h84 rfl ?_
 refine zgZ ?_
 refine ab.pure h86 rfl ?_
 refine zgZ ?_
 exact aL [] qsZ
theorem uY (n:Nat)(t:Typ)(v:Val)(p:List UInt8)(l:List Mis)(R:Bool×List Mis)(hd:dep (n+1) v)(ht:bM (n+1) t)(hv:v.ok)(hp:p.length<=2000)(hi:nl false l)(hR:R=d8 false l (aT (n+1) t v p))(h:¬ (t.kind<1\/10<t.kind\/¬ v.kind=t.kind))(hf:ae v=true)(hk:t.kind=4)(hw:0<t.words.length)(ha:(t.words.any fun x=>decide (x=v.text))=false) :
  bn Tryz.prog az 2 81 [.ptr 0 0,.pv t.pv,.pv v.pv,.pv (.str p)] (cx false l) (.pv (.tup [])) (cx R.1 R.2):=by
 have hd0:=hd
 simp only[dep] at hd0
 have h84:=cb v (by omega) (by omega) (by omega)
 have h83:=fun c=>kQ false l p c (by have:=hi.1;omega)
 have h86:=fL t.words v.text (by have:=ht;simp only[bM] at this;omega)
 have hvo:=hv
 have h83:=h83 4
 rw[aG,fo h hf hk hw ha,dS] at hR
 obtain⟨k,m,M,s,w,e,fs⟩:=t
 obtain⟨vk,vi,vs,vt,vl,vf⟩:=v
 simp only[dep,bM,Val.lst,Val.fields,Val.text,Typ.fields,Typ.words,Typ.elem,Typ.kind,Val.kind,Typ.min,Typ.max,Typ.scale,Val.num,Val.scale] at *
 obtain⟨d1,d2,d3,d4,d5⟩:=hd
 obtain⟨t1,t2,t3,t4⟩:=ht
 refine bn.intro Q81.2 (by simp[Q81]) ?_
 rw[Typ.pv_mk,Val.pv_mk] at *
 simp only[cx] at *
 have c:vk=4:=by omega
 subst hk c
 rw[<- hR] at h83
 rw[hf] at h84
 rw[ha] at h86
 have hz:(0:Int)<w.length:=by omega
 simp(disch:=try exact dI) only[Q81,push_cast,seval]
 refine ab.pure h84 rfl ?_
 refine zgZ ?_
 refine ab.pure h86 rfl ?_
 refine zgZ ?_
 refine ab.lentK h83 [0,1] rfl qsZ qsZ ?_
 refine zgZ ?_
 exact aL [] qsZ
theorem AA (ih:Ka)(t:Typ)(v:Val)(p:List UInt8)(l:List Mis)(R:Bool×List Mis)(hd:dep 2 v)(ht:bM 2 t)(hsc:∀ g∈t.fields,g.typ.kind<=7)(hv:v.ok)(hp:p.length<=1000)(hi:nl false l)(hR:R=d8 false l (aT 2 t v p))(h:¬ (t.kind<1\/10<t.kind\/¬ v.kind=t.kind))(hf:ae v=true)(hk:t.kind=9) :
  bn Tryz.prog az 2 81 [.ptr 0 0,.pv t.pv,.pv v.pv,.pv (.str p)] (cx false l) (.pv (.tup [])) (cx R.1 R.2):=by
 have hd0:=hd
 simp only[dep] at hd0
 have h84:=cb v (by omega) (by omega) (by omega)
 have h88:=fun h9 hR=>xU ih t v p false l R hd ht hsc hv h9 hp hi hR
 have hvo:=hv
 rw[aG,j9 h hf hk] at hR
 have h88:=h88 (by omega) hR
 obtain⟨k,m,M,s,w,e,fs⟩:=t
 obtain⟨vk,vi,vs,vt,vl,vf⟩:=v
 simp only[dep,bM,Val.lst,Val.fields,Val.text,Typ.fields,Typ.words,Typ.elem,Typ.kind,Val.kind,Typ.min,Typ.max,Typ.scale,Val.num,Val.scale] at *
 obtain⟨d1,d2,d3,d4,d5⟩:=hd
 obtain⟨t1,t2,t3,t4⟩:=ht
 refine bn.intro Q81.2 (by simp[Q81]) ?_
 rw[Typ.pv_mk,Val.pv_mk] at *
 simp only[cx] at *
 have c:vk=9:=by omega
 subst hk c
 rw[hf] at h84
 simp(disch:=try exact dI) only[Q81,push_cast,seval]
 refine ab.pure h84 rfl ?_
 refine zgZ ?_
 refine ab.lentK h88 [0,1] rfl qsZ qsZ ?_
 refine zgZ ?_
 exact aL [] qsZ
theorem I7:Ka:=by
 intro t v p d l R hd ht h7 hv hp hi hR
 cases d with
 | true=>
   rw[kP] at hR;subst hR
   obtain⟨k,m,M,s,w,e,fs⟩:=t
   obtain⟨vk,vi,vs,vt,vl,vf⟩:=v
   refine bn.intro Q81.2 (by simp[Q81]) ?_
   simp(disch:=try exact dI) only[Q81,cx,Typ.pv_mk,Val.pv_mk,push_cast,seval]
   exact aL [] qsZ
 | false=>
   by_cases h:t.kind<1\/10<t.kind\/¬ v.kind=t.kind
   ·exact iS 0 t v p l R hd ht hv hp hi hR h
   ·by_cases hf:ae v=false
    ·exact kv 0 t v p l R hd ht hv hp hi hR h hf
    ·have hf:ae v=true:=by simpa using hf
     have hk:t.kind=1\/t.kind=2\/t.kind=3\/t.kind=4\/t.kind=5\/t.kind=6\/t.kind=7:=by omega
     rcases hk with hk | hk | hk | hk | hk | hk | hk
     ·exact AH 0 t v p l R hd ht hv hp hi hR h hf hk
     ·exact AG 0 t v p l R hd ht hv hp hi hR h hf hk
     ·by_cases hs:v.scale=t.scale
      ·exact uZ 0 t v p l R hd ht hv hp hi hR h hf hk hs
      ·exact AF 0 t v p l R hd ht hv hp hi hR h hf hk hs
     ·by_cases hw:t.words.length=0
      ·exact AE 0 t v p l R hd ht hv hp hi hR h hf hk hw
      ·cases ha:(t.words.any fun x=>decide (x=v.text)) with
       | true=>exact uX 0 t v p l R hd ht hv hp hi hR h hf hk (by omega) ha
       | false=>exact uY 0 t v p l R hd ht hv hp hi hR h hf hk (by omega) ha
     ·exact AD 0 t v p l R hd ht hv hp hi hR h hf hk
     ·exact AC 0 t v p l R hd ht hv hp hi hR h hf hk
     ·exact AB 0 t v p l R hd ht hv hp hi hR h hf hk
theorem I6 (t:Typ)(v:Val)(R:Bool×List Mis)(hd:dep 2 v)(ht:bM 2 t)(h9:t.kind=9)(hsc:∀ g∈t.fields,g.typ.kind<=7)(hv:v.ok)(hR:R=d8 false [] (aT 2 t v [])) :
  bn Tryz.prog az 2 81 [.ptr 0 0,.pv t.pv,.pv v.pv,.pv (.str [])] (cx false []) (.pv (.tup [])) (cx R.1 R.2):=by
 have hi:nl false []:=⟨by simp,by simp⟩
 by_cases h:t.kind<1\/10<t.kind\/¬ v.kind=t.kind
 ·exact iS 1 t v [] [] R hd ht hv (by simp) hi hR h
 ·by_cases hf:ae v=false
  ·exact kv 1 t v [] [] R hd ht hv (by simp) hi hR h hf
  ·exact AA I7 t v [] [] R hd ht hsc hv (by simp) hi hR h (by simpa using hf) h9
theorem JY (a l:List Mis):(d8 false l a).1=!a.isEmpty:=by
 cases a with
 | nil=>rfl
 | cons m r=>rw[d8,ig,kP];rfl
theorem LU (t:Typ)(v:Val)(ht:bM 2 t)(h9:t.kind=9)(hsc:∀ g∈t.fields,g.typ.kind<=7)(hv:v.ok):am Tryz.prog az 42 [t.pv,v.pv] (.bool (aT 2 t v []).isEmpty):=by
 have h56:=I6 t v _ (lV 2 v hv) ht h9 hsc hv rfl
 have e:=JY (aT 2 t v []) []
 generalize d8 false [] (aT 2 t v [])=S at *
 obtain⟨Sd,Sl⟩:=S
 simp only at e
 have e2:(aT 2 t v []).isEmpty=!Sd:=by rw[e,Bool.not_not]
 rw[e2]
 obtain⟨k,m,M,s,w,e,fs⟩:=t
 obtain⟨vk,vi,vs,vt,vl,vf⟩:=v
 simp only[cx,Typ.pv_mk,Val.pv_mk,List.map_nil] at h56
 refine am.intro Q42.2 (by simp[Q42]) ?_
 simp(disch:=try exact dI) only[Q42,Typ.pv_mk,Val.pv_mk,push_cast,seval]
 refine ab.lentK h56 [4,2] rfl qsZ qsZ ?_
 exact qsZ
end Go.Proofs.YtbojpfpliibfbaaGreatDoor
