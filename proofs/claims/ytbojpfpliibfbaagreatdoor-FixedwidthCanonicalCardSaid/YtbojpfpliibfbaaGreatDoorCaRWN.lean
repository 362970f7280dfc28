/- A part of the proof. -/
import Derived.Test.YtbojpfpliibfbaaGreatDoorCaRWK
set_option maxRecDepth 100000
set_option linter.unusedVariables false
set_option linter.unusedSimpArgs false
namespace Go.Proofs.YtbojpfpliibfbaaGreatDoor
open Go Go.Ab
attribute [local irreducible] vc
def ia:Bool->List Mis->Mis->Bool×List Mis
 | true,l,_=>(true,l)
 | false,l,m=>(true,l++[m])
def dH:Bool->List Mis->List Mis->Bool×List Mis
 | d,l,[]=>(d,l)
 | d,l,m::r=>dH (ia d l m).1 (ia d l m).2 r
def bR (d:Bool)(l:List Mis):List Blk:=[.cells 122 true [.clo 80 [] [.ptr 1 0],.pv (.bool d)],.cells 4 true [.pv (.bool (!d))]]
theorem Sk (d:Bool)(m:Mis):bf Tryz.prog au 1 80 [.pv m.pv,.ptr 0 0] [.cells 4 true [.pv (.bool d)]] (.pv (.bool false)) [.cells 4 true [.pv (.bool false)]]:=by
 obtain⟨p,c⟩:=m
 refine bf.intro Q80.2 (by simp[Q80]) ?_
 simp(disch:=try exact dI) only[Q80,Mis.pv_mk,push_cast,seval]
 exact aG [] qsZ
theorem lh (d:Bool)(l:List Mis)(p:List UInt8)(c:Int)(hl:l.length<=100000):bf Tryz.prog au 2 134 [.ptr 0 0,.pv (.str p),.pv (.int .i64 c)] (bR d l) (.pv (.tup [])) (bR (ia d l (.mk p c)).1 (ia d l (.mk p c)).2):=by
 have h63:=Sk true (.mk p c)
 rw[Mis.pv_mk] at h63
 refine bf.intro PJ.2 (by simp[PJ]) ?_
 cases d with
 | true=>
   rw[ia]
   simp(disch:=try exact dI) only[PJ,bR,push_cast,seval]
   exact aG [] qsZ
 | false=>
   rw[ia]
   simp(disch:=try exact dI) only[PJ,bR,push_cast,seval]
   refine ab.lentK h63 [1] rfl qsZ qsZ ?_
   refine zgZ ?_
   exact aG [] qsZ
theorem dx (d:Bool)(l:List Mis)(m:Mis):dH d l [m]=ia d l m:=rfl
theorem gX (d:Bool)(l:List Mis):dH d l []=(d,l):=rfl
theorem jC:∀ (a b:List Mis) (d:Bool) (l:List Mis),dH d l (a++b)=dH (dH d l a).1 (dH d l a).2 b
 | [],b,d,l=>rfl
 | m::r,b,d,l=>by rw[List.cons_append,dH,jC r b,dH]
theorem lg:∀ (a:List Mis) (l:List Mis),dH true l a=(true,l)
 | [],l=>rfl
 | m::r,l=>by rw[dH,ia];exact lg r l
theorem lU (d:Bool)(l:List Mis)(t:Typ)(p:List UInt8)(n:Int)(hl:l.length<=100000)(R:Bool×List Mis)(hR:R=dH d l (vF t.min t.max p n)) :
  bf Tryz.prog au 2 136 [.ptr 0 0,.pv t.pv,.pv (.str p),.pv (.int .i64 n)] (bR d l) (.pv (.tup [])) (bR R.1 R.2):=by
 have h83:=lh d l p 2 hl
 obtain⟨k,m,M,s,w,e,f⟩:=t
 simp only[Typ.min,Typ.max] at hR
 refine bf.intro Pc.2 (by simp[Pc]) ?_
 unfold bR at h83 ⊢
 by_cases h1:n<m
 ·rw[HG (.inl h1),dx] at hR
  rw[<- hR] at h83
  simp(disch:=try exact dI) only[Pc,Typ.pv_mk,push_cast,seval]
  refine ab.lentK h83 [0,1] rfl qsZ qsZ ?_
  refine zgZ ?_
  exact aG [] qsZ
 ·by_cases h2:M<n
  ·rw[HG (.inr h2),dx] at hR
   rw[<- hR] at h83
   simp(disch:=try exact dI) only[Pc,Typ.pv_mk,push_cast,seval]
   refine ab.lentK h83 [0,1] rfl qsZ qsZ ?_
   refine zgZ ?_
   exact aG [] qsZ
  ·rw[Ng (fun h=>h.elim h1 h2),gX] at hR
   subst hR
   simp(disch:=try exact dI) only[Pc,Typ.pv_mk,push_cast,seval]
   exact aG [] qsZ
theorem wi {d:Bool}{l:List Mis}(h:Qp d l)(m:Mis):Qp (ia d l m).1 (ia d l m).2:=by
 cases d with
 | true=>exact h
 | false=>
   have:=h.2 rfl
   exact⟨by simp[ia];omega,fun hh=>by simp[ia] at hh⟩
def nS:=Qp
theorem jv:∀ (a:List Mis) {d:Bool} {l:List Mis},nS d l->nS (dH d l a).1 (dH d l a).2
 | [],d,l,h=>h
 | m::r,d,l,h=>jv r (wi h m)
def LL:Prop:=∀ (t:Typ) (v:Val) (p:List UInt8) (d:Bool) (l:List Mis) (R:Bool×List Mis),dep 1 v->eJ 1 t->t.kind<=7->v.ok->p.length<=2000->nS d l->R=dH d l (bw 1 t v p) ->
 bf Tryz.prog au 2 81 [.ptr 0 0,.pv t.pv,.pv v.pv,.pv (.str p)] (bR d l) (.pv (.tup [])) (bR R.1 R.2)
theorem zw (ih:LL)(t:Typ)(v:Val)(p:List UInt8)(d:Bool)(l:List Mis)(R:Bool×List Mis)(hd:dep 2 v)(ht:eJ 2 t)(hsc:∀ g∈t.fields,g.typ.kind<=7)(hv:v.ok)(hk:v.kind=9)(hp:p.length<=1000)(hi:nS d l)(hR:R=dH d l (Jw (bw 1) t v p)) :
  bf Tryz.prog au 2 138 [.ptr 0 0,.pv t.pv,.pv v.pv,.pv (.str p)] (bR d l) (.pv (.tup [])) (bR R.1 R.2):=by
 have h113:=fun name=>nv v name hv hk
 have h89:=fun name=>p5 t name
 obtain⟨k,m,M,s,w,e,fs⟩:=t
 obtain⟨vk,vi,vs,vt,vl,vf⟩:=v
 simp only[dep,eJ,Val.lst,Val.fields,Val.text,Typ.fields,Typ.words,Typ.elem,Jw] at hd ht hR h113 h89 hsc
 obtain⟨d1,d2,d3,d4,d5⟩:=hd
 obtain⟨t1,t2,t3,t4⟩:=ht
 rw[Val.ok_mk] at hv
 refine bf.intro RI.2 (by simp[RI]) ?_
 rw[Typ.pv_mk,Val.pv_mk] at *
 generalize hF1:fL (bw 1) vf p=F1 at hR
 generalize hF2:j9 fs p=F2 at hR
 simp(disch:=try exact dI) only[RI,bR,push_cast,seval]
 refine az ([]) (fun i:Nat=>[(19,.pv (.int .i64 (i:Int)))]) (fun i=>[(0,.cells 122 true [.clo 80 [] [.ptr 1 0],.pv (.bool (dH d l ((fs.take i).flatMap F1)).1)]),(1,.cells 4 true [.pv (.bool (!(dH d l ((fs.take i).flatMap F1)).1))])]) (fun i=>i<=fs.length) (fun i=>fs.length - i) (0) ?_;intro e0 σ0 n0 h0;simp(disch:=try exact dI) only[push_cast,seval] at h0;obtain⟨rfl,rfl,rfl⟩:=h0;refine⟨?_,?_,?_⟩
 ·simp(disch:=try exact dI) only[dH,List.flatMap_nil,push_cast,seval]
 ·omega
 ·intro i hi2
  by_cases hlt:i<fs.length
  ·have hltI:(i:Int)<fs.length:=by omega
   obtain⟨x,hx⟩:∃ x,fs[i]? = some x:=⟨_,List.getElem?_eq_getElem hlt⟩
   have hsn:=pf F1 hx
   have hinv:=jv ((fs.take i).flatMap F1) hi
   have happ:=jC ((fs.take i).flatMap F1) (F1 x) d l
   rw[<- hsn] at happ
   generalize dH d l ((fs.take i).flatMap F1)=S at *
   obtain⟨Sd,Sl⟩:=S
   simp only at hinv happ
   obtain⟨hxn,hxt⟩:=t4 x (List.mem_of_getElem? hx)
   have hxk:=hsc x (List.mem_of_getElem? hx)
   have hF1x:F1 x=fL (bw 1) vf p x:=by rw[hF1]
   obtain⟨x1,x2,x3,⟨y1,y2,y3,y4,y5,y6,y7⟩,x5⟩:=x
   simp only[TFd.name,TFd.typ] at hxn hxt hxk
   have hc:=h113 x2 (by omega)
   have hul:=lG p x2
   have hu:=sf p x2 (by omega) (by omega)
   cases hfd:vf.find? (bc x2) with
   | some y=>
     rw[hfd] at hc
     rw[f0 (by exact hfd)] at hF1x
     have hym:=List.mem_of_find?_eq_some hfd
     have hyd:=(d5 y hym).2
     have hyo:=hv.2.2.2.2.2.2.2 y hym
     obtain⟨yn,yv⟩:=y
     rw[Fld.ok_mk] at hyo
     simp only[Fld.value,TFd.typ,TFd.name] at hyd hF1x
     have hih:=ih (.mk y1 y2 y3 y4 y5 y6 y7) yv (dn p x2) Sd Sl _ hyd hxt hxk hyo.2 (by omega) hinv rfl
     rw[<- hF1x,<- happ] at hih
     obtain⟨z1,z2,z3,z4,z5,z6⟩:=yv
     simp only[vlR,Option.map_some,Option.getD_some,Option.isSome_some,Fld.value,Val.pv_mk] at hc
     simp only[bR,Typ.pv_mk,Val.pv_mk] at hih
     simp(disch:=try exact dI) only[hx,TFd.pv_mk,Typ.pv_mk,push_cast,seval]
     refine ab.pure hc rfl ?_
     simp(disch:=try exact dI) only[TFd.pv_mk,Typ.pv_mk,push_cast,seval]
     refine aq hu rfl ?_
     refine zgZ ?_
     refine ab.lentK hih [0,1] rfl qsZ qsZ ?_
     refine zgZ ?_
     exact⟨i+1,aZ qsZ,by omega,by omega⟩
   | none=>
     rw[hfd] at hc
     simp only[vlR,Option.map_none,Option.getD_none,Option.isSome_none,ef,Val.pv_mk,List.map_nil] at hc
     by_cases hn:x3=2
     ·rw[mm (by exact hfd) (by exact hn)] at hF1x
      rw[hF1x,gX] at happ
      simp(disch:=try exact dI) only[hx,TFd.pv_mk,Typ.pv_mk,hn,push_cast,seval]
      refine ab.pure hc rfl ?_
      simp(disch:=try exact dI) only[TFd.pv_mk,Typ.pv_mk,push_cast,seval]
      exact⟨i+1,aZ (by simp(disch:=try exact dI) only[happ,push_cast,seval]),by omega,by omega⟩
     ·rw[kK (by exact hfd) (by exact hn)] at hF1x
      simp only[TFd.name] at hF1x
      rw[hF1x,dx] at happ
      have h83:=lh Sd Sl (dn p x2) 5 (by have:=hinv.1;omega)
      rw[<- happ] at h83
      simp only[bR] at h83
      simp(disch:=try exact dI) only[hx,TFd.pv_mk,Typ.pv_mk,push_cast,seval]
      refine ab.pure hc rfl ?_
      simp(disch:=try exact dI) only[TFd.pv_mk,Typ.pv_mk,push_cast,seval]
      refine ab.pure hu rfl ?_
      refine zgZ ?_
      refine ab.lentK h83 [0,1] rfl qsZ qsZ ?_
      refine zgZ ?_
      exact⟨i+1,aZ qsZ,by omega,by omega⟩
  ·have hltI:¬ (i:Int)<fs.length:=by omega
   have hinv:=jv (fs.flatMap F1) hi
   rw[jC] at hR
   rw[su hlt]
   generalize dH d l (fs.flatMap F1)=S at *
   obtain⟨Sd,Sl⟩:=S
   simp only at hinv hR
   refine zgZ ?_
   refine az ([]) (fun i:Nat=>[(53,.pv (.int .i64 (i:Int)))]) (fun i=>[(0,.cells 122 true [.clo 80 [] [.ptr 1 0],.pv (.bool (dH Sd Sl ((vf.take i).flatMap F2)).1)]),(1,.cells 4 true [.pv (.bool (!(dH Sd Sl ((vf.take i).flatMap F2)).1))])]) (fun i=>i<=vf.length) (fun i=>vf.length - i) (0) ?_;intro e0 σ0 n0 h0;simp(disch:=try exact dI) only[push_cast,seval] at h0;obtain⟨rfl,rfl,rfl⟩:=h0;refine⟨?_,?_,?_⟩
   ·simp(disch:=try exact dI) only[dH,List.flatMap_nil,push_cast,seval]
   ·omega
   ·intro i hi2
    by_cases hlt:i<vf.length
    ·have hltI:(i:Int)<vf.length:=by omega
     obtain⟨x,hx⟩:∃ x,vf[i]? = some x:=⟨_,List.getElem?_eq_getElem hlt⟩
     have hsn:=pf F2 hx
     have hinv2:=jv ((vf.take i).flatMap F2) hinv
     have happ:=jC ((vf.take i).flatMap F2) (F2 x) Sd Sl
     rw[<- hsn] at happ
     generalize dH Sd Sl ((vf.take i).flatMap F2)=T at *
     obtain⟨Td,Tl⟩:=T
     simp only at hinv2 happ
     have hxn:=(d5 x (List.mem_of_getElem? hx)).1
     have hF2x:F2 x=j9 fs p x:=by rw[hF2]
     obtain⟨x1,⟨y1,y2,y3,y4,y5,y6⟩⟩:=x
     simp only[Fld.name] at hxn
     have hc:=h89 x1 (by omega)
     have hul:=lG p x1
     have hu:=sf p x1 (by omega) (by omega)
     cases hfd:fs.find? (named x1) with
     | some z=>
       rw[hfd] at hc
       rw[j7 (by exact hfd)] at hF2x
       rw[hF2x,gX] at happ
       obtain⟨z1,z2,z3,⟨w1,w2,w3,w4,w5,w6,w7⟩,z5⟩:=z
       simp only[tfR,Option.getD_some,Option.isSome_some,TFd.pv_mk,Typ.pv_mk] at hc
       simp(disch:=try exact dI) only[hx,Fld.pv_mk,Val.pv_mk,push_cast,seval]
       refine ab.pure hc rfl ?_
       refine zgZ ?_
       exact⟨i+1,aZ (by simp(disch:=try exact dI) only[happ,push_cast,seval]),by omega,by omega⟩
     | none=>
       rw[hfd] at hc
       rw[j8 (by exact hfd)] at hF2x
       simp only[Fld.name] at hF2x
       rw[hF2x,dx] at happ
       have h83:=lh Td Tl (dn p x1) 6 (by have:=hinv2.1;omega)
       rw[<- happ] at h83
       simp only[bR] at h83
       simp only[tfR,Option.getD_none,Option.isSome_none,iM,TFd.pv_mk,Typ.pv_mk,List.map_nil] at hc
       simp(disch:=try exact dI) only[hx,Fld.pv_mk,Val.pv_mk,push_cast,seval]
       refine ab.pure hc rfl ?_
       refine zgZ ?_
       refine ab.pure hu rfl ?_
       refine zgZ ?_
       refine ab.lentK h83 [0,1] rfl qsZ qsZ ?_
       refine zgZ ?_
       exact⟨i+1,aZ qsZ,by omega,by omega⟩
    ·have hltI:¬ (i:Int)<vf.length:=by omega
     rw[su hlt]
     rw[<- hR]
     refine zgZ ?_
     exact aG [] qsZ
theorem iY (n:Nat)(t:Typ)(v:Val)(p:List UInt8)(l:List Mis)(R:Bool×List Mis)(hd:dep (n+1) v)(ht:eJ (n+1) t)(hv:v.ok)(hp:p.length<=2000)(hi:nS false l)(hR:R=dH false l (bw (n+1) t v p))(h:t.kind<1\/10<t.kind\/¬ v.kind=t.kind) :
  bf Tryz.prog au 2 81 [.ptr 0 0,.pv t.pv,.pv v.pv,.pv (.str p)] (bR false l) (.pv (.tup [])) (bR R.1 R.2):=by
 have hd0:=hd
 simp only[dep] at hd0
 have h83:=fun c=>lh false l p c (by have:=hi.1;omega)
 have hvo:=hv
 have h83:=h83 1
 rw[aK,dX h,dx] at hR
 obtain⟨k,m,M,s,w,e,fs⟩:=t
 obtain⟨vk,vi,vs,vt,vl,vf⟩:=v
 simp only[dep,eJ,Val.lst,Val.fields,Val.text,Typ.fields,Typ.words,Typ.elem,Typ.kind,Val.kind,Typ.min,Typ.max,Typ.scale,Val.num,Val.scale] at *
 obtain⟨d1,d2,d3,d4,d5⟩:=hd
 obtain⟨t1,t2,t3,t4⟩:=ht
 refine bf.intro Q81.2 (by simp[Q81]) ?_
 rw[Typ.pv_mk,Val.pv_mk] at *
 simp only[bR] at *
 rw[<- hR] at h83
 by_cases a:k<1
 ·simp(disch:=try exact dI) only[Q81,a,push_cast,seval]
  refine ab.lentK h83 [0,1] rfl qsZ qsZ ?_
  refine zgZ ?_
  exact aG [] qsZ
 ·by_cases b:10<k
  ·simp(disch:=try exact dI) only[Q81,a,b,push_cast,seval]
   refine ab.lentK h83 [0,1] rfl qsZ qsZ ?_
   refine zgZ ?_
   exact aG [] qsZ
  ·have c:¬ vk=k:=by omega
   simp(disch:=try exact dI) only[Q81,a,b,c,push_cast,seval]
   refine ab.lentK h83 [0,1] rfl qsZ qsZ ?_
   refine zgZ ?_
   exact aG [] qsZ
theorem kH (n:Nat)(t:Typ)(v:Val)(p:List UInt8)(l:List Mis)(R:Bool×List Mis)(hd:dep (n+1) v)(ht:eJ (n+1) t)(hv:v.ok)(hp:p.length<=2000)(hi:nS false l)(hR:R=dH false l (bw (n+1) t v p))(h:¬ (t.kind<1\/10<t.kind\/¬ v.kind=t.kind))(hf:ae v=false) :
  bf Tryz.prog au 2 81 [.ptr 0 0,.pv t.pv,.pv v.pv,.pv (.str p)] (bR false l) (.pv (.tup [])) (bR R.1 R.2):=by
 have hd0:=hd
 simp only[dep] at hd0
 have h84:=bM v (by omega) (by omega) (by omega)
 have h83:=fun c=>lh false l p c (by have:=hi.1;omega)
 have hvo:=hv
 have h83:=h83 8
 rw[aK,gE h hf,dx] at hR
 obtain⟨k,m,M,s,w,e,fs⟩:=t
 obtain⟨vk,vi,vs,vt,vl,vf⟩:=v
 simp only[dep,eJ,Val.lst,Val.fields,Val.text,Typ.fields,Typ.words,Typ.elem,Typ.kind,Val.kind,Typ.min,Typ.max,Typ.scale,Val.num,Val.scale] at *
 obtain⟨d1,d2,d3,d4,d5⟩:=hd
 obtain⟨t1,t2,t3,t4⟩:=ht
 refine bf.intro Q81.2 (by simp[Q81]) ?_
 rw[Typ.pv_mk,Val.pv_mk] at *
 simp only[bR] at *
 have a:¬ k<1:=by omega
 have b:¬ 10<k:=by omega
 have c:vk=k:=by omega
 subst c
 rw[<- hR] at h83
 rw[hf] at h84
 simp(disch:=try exact dI) only[Q81,a,b,push_cast,seval]
 refine ab.pure h84 rfl ?_
 refine zgZ ?_
 refine ab.lentK h83 [0,1] rfl qsZ qsZ ?_
 refine zgZ ?_
 exact aG [] qsZ
theorem B0 (n:Nat)(t:Typ)(v:Val)(p:List UInt8)(l:List Mis)(R:Bool×List Mis)(hd:dep (n+1) v)(ht:eJ (n+1) t)(hv:v.ok)(hp:p.length<=2000)(hi:nS false l)(hR:R=dH false l (bw (n+1) t v p))(h:¬ (t.kind<1\/10<t.kind\/¬ v.kind=t.kind))(hf:ae v=true)(hk:t.kind=2) :
  bf Tryz.prog au 2 81 [.ptr 0 0,.pv t.pv,.pv v.pv,.pv (.str p)] (bR false l) (.pv (.tup [])) (bR R.1 R.2):=by
 have hd0:=hd
 simp only[dep] at hd0
 have h84:=bM v (by omega) (by omega) (by omega)
 have h85:=fun k=>lU false l t p k (by have:=hi.1;omega) _ rfl
 have hvo:=hv
 have h85:=h85 v.num
 rw[aK,fb h hf (by omega)] at hR
 obtain⟨k,m,M,s,w,e,fs⟩:=t
 obtain⟨vk,vi,vs,vt,vl,vf⟩:=v
 simp only[dep,eJ,Val.lst,Val.fields,Val.text,Typ.fields,Typ.words,Typ.elem,Typ.kind,Val.kind,Typ.min,Typ.max,Typ.scale,Val.num,Val.scale] at *
 obtain⟨d1,d2,d3,d4,d5⟩:=hd
 obtain⟨t1,t2,t3,t4⟩:=ht
 refine bf.intro Q81.2 (by simp[Q81]) ?_
 rw[Typ.pv_mk,Val.pv_mk] at *
 simp only[bR] at *
 have c:vk=2:=by omega
 subst hk c
 rw[<- hR] at h85
 rw[hf] at h84
 simp(disch:=try exact dI) only[Q81,push_cast,seval]
 refine ab.pure h84 rfl ?_
 refine zgZ ?_
 refine ab.lentK h85 [0,1] rfl qsZ qsZ ?_
 refine zgZ ?_
 exact aG [] qsZ
theorem BW (n:Nat)(t:Typ)(v:Val)(p:List UInt8)(l:List Mis)(R:Bool×List Mis)(hd:dep (n+1) v)(ht:eJ (n+1) t)(hv:v.ok)(hp:p.length<=2000)(hi:nS false l)(hR:R=dH false l (bw (n+1) t v p))(h:¬ (t.kind<1\/10<t.kind\/¬ v.kind=t.kind))(hf:ae v=true)(hk:t.kind=6) :
  bf Tryz.prog au 2 81 [.ptr 0 0,.pv t.pv,.pv v.pv,.pv (.str p)] (bR false l) (.pv (.tup [])) (bR R.1 R.2):=by
 have hd0:=hd
 simp only[dep] at hd0
 have h84:=bM v (by omega) (by omega) (by omega)
 have h85:=fun k=>lU false l t p k (by have:=hi.1;omega) _ rfl
 have hvo:=hv
 have h85:=h85 v.num
 rw[aK,fb h hf (by omega)] at hR
 obtain⟨k,m,M,s,w,e,fs⟩:=t
 obtain⟨vk,vi,vs,vt,vl,vf⟩:=v
 simp only[dep,eJ,Val.lst,Val.fields,Val.text,Typ.fields,Typ.words,Typ.elem,Typ.kind,Val.kind,Typ.min,Typ.max,Typ.scale,Val.num,Val.scale] at *
 obtain⟨d1,d2,d3,d4,d5⟩:=hd
 obtain⟨t1,t2,t3,t4⟩:=ht
 refine bf.intro Q81.2 (by simp[Q81]) ?_
 rw[Typ.pv_mk,Val.pv_mk] at *
 simp only[bR] at *
 have c:vk=6:=by omega
 subst hk c
 rw[<- hR] at h85
 rw[hf] at h84
 simp(disch:=try exact dI) only[Q81,push_cast,seval]
 refine ab.pure h84 rfl ?_
 refine zgZ ?_
 refine ab.lentK h85 [0,1] rfl qsZ qsZ ?_
 refine zgZ ?_
 exact aG [] qsZ
theorem BV (n:Nat)(t:Typ)(v:Val)(p:List UInt8)(l:List Mis)(R:Bool×List Mis)(hd:dep (n+1) v)(ht:eJ (n+1) t)(hv:v.ok)(hp:p.length<=2000)(hi:nS false l)(hR:R=dH false l (bw (n+1) t v p))(h:¬ (t.kind<1\/10<t.kind\/¬ v.kind=t.kind))(hf:ae v=true)(hk:t.kind=7) :
  bf Tryz.prog au 2 81 [.ptr 0 0,.pv t.pv,.pv v.pv,.pv (.str p)] (bR false l) (.pv (.tup [])) (bR R.1 R.2):=by
 have hd0:=hd
 simp only[dep] at hd0
 have h84:=bM v (by omega) (by omega) (by omega)
 have h85:=fun k=>lU false l t p k (by have:=hi.1;omega) _ rfl
 have hvo:=hv
 have h85:=h85 v.num
 rw[aK,fb h hf (by omega)] at hR
 obtain⟨k,m,M,s,w,e,fs⟩:=t
 obtain⟨vk,vi,vs,vt,vl,vf⟩:=v
 simp only[dep,eJ,Val.lst,Val.fields,Val.text,Typ.fields,Typ.words,Typ.elem,Typ.kind,Val.kind,Typ.min,Typ.max,Typ.scale,Val.num,Val.scale] at *
 obtain⟨d1,d2,d3,d4,d5⟩:=hd
 obtain⟨t1,t2,t3,t4⟩:=ht
 refine bf.intro Q81.2 (by simp[Q81]) ?_
 rw[Typ.pv_mk,Val.pv_mk] at *
 simp only[bR] at *
 have c:vk=7:=by omega
 subst hk c
 rw[<- hR] at h85
 rw[hf] at h84
 simp(disch:=try exact dI) only[Q81,push_cast,seval]
 refine ab.pure h84 rfl ?_
 refine zgZ ?_
 refine ab.lentK h85 [0,1] rfl qsZ qsZ ?_
 refine zgZ ?_
 exact aG [] qsZ
theorem B1 (n:Nat)(t:Typ)(v:Val)(p:List UInt8)(l:List Mis)(R:Bool×List Mis)(hd:dep (n+1) v)(ht:eJ (n+1) t)(hv:v.ok)(hp:p.length<=2000)(hi:nS false l)(hR:R=dH false l (bw (n+1) t v p))(h:¬ (t.kind<1\/10<t.kind\/¬ v.kind=t.kind))(hf:ae v=true)(hk:t.kind=1) :
  bf Tryz.prog au 2 81 [.ptr 0 0,.pv t.pv,.pv v.pv,.pv (.str p)] (bR false l) (.pv (.tup [])) (bR R.1 R.2):=by
 have hd0:=hd
 simp only[dep] at hd0
 have h84:=bM v (by omega) (by omega) (by omega)
 have hvo:=hv
 rw[aK,l7 h hf hk,gX] at hR
 obtain⟨k,m,M,s,w,e,fs⟩:=t
 obtain⟨vk,vi,vs,vt,vl,vf⟩:=v
 simp only[dep,eJ,Val.lst,Val.fields,Val.text,Typ.fields,Typ.words,Typ.elem,Typ.kind,Val.kind,Typ.min,Typ.max,Typ.scale,Val.num,Val.scale] at *
 obtain⟨d1,d2,d3,d4,d5⟩:=hd
 obtain⟨t1,t2,t3,t4⟩:=ht
 refine bf.intro Q81.2 (by simp[Q81]) ?_
 rw[Typ.pv_mk,Val.pv_mk] at *
 simp only[bR] at *
 have c:vk=1:=by omega
 subst hk c hR
 rw[hf] at h84
 simp(disch:=try exact dI) only[Q81,push_cast,seval]
 refine ab.pure h84 rfl ?_
 refine zgZ ?_
 exact aG [] qsZ
theorem wv (n:Nat)(t:Typ)(v:Val)(p:List UInt8)(l:List Mis)(R:Bool×List Mis)(hd:dep (n+1) v)(ht:eJ (n+1) t)(hv:v.ok)(hp:p.length<=2000)(hi:nS false l)(hR:R=dH false l (bw (n+1) t v p))(h:¬ (t.kind<1\/10<t.kind\/¬ v.kind=t.kind))(hf:ae v=true)(hk:t.kind=3)(hs:v.scale=t.scale) :
  bf Tryz.prog au 2 81 [.ptr 0 0,.pv t.pv,.pv v.pv,.pv (.str p)] (bR false l) (.pv (.tup [])) (bR R.1 R.2):=by
 have hd0:=hd
 simp only[dep] at hd0
 have h84:=bM v (by omega) (by omega) (by omega)
 have h85:=fun k=>lU false l t p k (by have:=hi.1;omega) _ rfl
 have hvo:=hv
 have h85:=h85 v.num
 rw[aK,kq h hf hk hs] at hR
 obtain⟨k,m,M,s,w,e,fs⟩:=t
 obtain⟨vk,vi,vs,vt,vl,vf⟩:=v
 simp only[dep,eJ,Val.lst,Val.fields,Val.text,Typ.fields,Typ.words,Typ.elem,Typ.kind,Val.kind,Typ.min,Typ.max,Typ.scale,Val.num,Val.scale] at *
 obtain⟨d1,d2,d3,d4,d5⟩:=hd
 obtain⟨t1,t2,t3,t4⟩:=ht
 refine bf.intro Q81.2 (by simp[Q81]) ?_
 rw[Typ.pv_mk,Val.pv_mk] at *
 simp only[bR] at *
 have c:vk=3:=by omega
 subst hk c
 rw[<- hR] at h85
 rw[hf] at h84
 simp(disch:=try exact dI) only[Q81,push_cast,seval]
 refine ab.pure h84 rfl ?_
 simp(disch:=try exact dI) only[hs,push_cast,seval]
 refine ab.lentK h85 [0,1] rfl qsZ qsZ ?_
 refine zgZ ?_
 exact aG [] qsZ
theorem BZ (n:Nat)(t:Typ)(v:Val)(p:List UInt8)(l:List Mis)(R:Bool×List Mis)(hd:dep (n+1) v)(ht:eJ (n+1) t)(hv:v.ok)(hp:p.length<=2000)(hi:nS false l)(hR:R=dH false l (bw (n+1) t v p))(h:¬ (t.kind<1\/10<t.kind\/¬ v.kind=t.kind))(hf:ae v=true)(hk:t.kind=3)(hs:¬ v.scale=t.scale) :
  bf Tryz.prog au 2 81 [.ptr 0 0,.pv t.pv,.pv v.pv,.pv (.str p)] (bR false l) (.pv (.tup [])) (bR R.1 R.2):=by
 have hd0:=hd
 simp only[dep] at hd0
 have h84:=bM v (by omega) (by omega) (by omega)
 have h83:=fun c=>lh false l p c (by have:=hi.1;omega)
 have hvo:=hv
 have h83:=h83 3
 rw[aK,ko h hf hk hs,dx] at hR
 obtain⟨k,m,M,s,w,e,fs⟩:=t
 obtain⟨vk,vi,vs,vt,vl,vf⟩:=v
 simp only[dep,eJ,Val.lst,Val.fields,Val.text,Typ.fields,Typ.words,Typ.elem,Typ.kind,Val.kind,Typ.min,Typ.max,Typ.scale,Val.num,Val.scale] at *
 obtain⟨d1,d2,d3,d4,d5⟩:=hd
 obtain⟨t1,t2,t3,t4⟩:=ht
 refine bf.intro Q81.2 (by simp[Q81]) ?_
 rw[Typ.pv_mk,Val.pv_mk] at *
 simp only[bR] at *
 have c:vk=3:=by omega
 subst hk c
 rw[<- hR] at h83
 rw[hf] at h84
 simp(disch:=try exact dI) only[Q81,push_cast,seval]
 refine ab.pure h84 rfl ?_
 simp(disch:=try exact dI) only[hs,push_cast,seval]
 refine ab.lentK h83 [0,1] rfl qsZ qsZ ?_
 refine zgZ ?_
 exact aG [] qsZ
theorem BX (n:Nat)(t:Typ)(v:Val)(p:List UInt8)(l:List Mis)(R:Bool×List Mis)(hd:dep (n+1) v)(ht:eJ (n+1) t)(hv:v.ok)(hp:p.length<=2000)(hi:nS false l)(hR:R=dH false l (bw (n+1) t v p))(h:¬ (t.kind<1\/10<t.kind\/¬ v.kind=t.kind))(hf:ae v=true)(hk:t.kind=5) :
  bf Tryz.prog au 2 81 [.ptr 0 0,.pv t.pv,.pv v.pv,.pv (.str p)] (bR false l) (.pv (.tup [])) (bR R.1 R.2):=by
 have hd0:=hd
 simp only[dep] at hd0
 have h84:=bM v (by omega) (by omega) (by omega)
 have h85:=fun k=>lU false l t p k (by have:=hi.1;omega) _ rfl
 have hvo:=hv
 have h85:=h85 v.text.length
 rw[aK,dW h hf (.inr hk) (by omega)] at hR
 obtain⟨k,m,M,s,w,e,fs⟩:=t
 obtain⟨vk,vi,vs,vt,vl,vf⟩:=v
 simp only[dep,eJ,Val.lst,Val.fields,Val.text,Typ.fields,Typ.words,Typ.elem,Typ.kind,Val.kind,Typ.min,Typ.max,Typ.scale,Val.num,Val.scale] at *
 obtain⟨d1,d2,d3,d4,d5⟩:=hd
 obtain⟨t1,t2,t3,t4⟩:=ht
 refine bf.intro Q81.2 (by simp[Q81]) ?_
 rw[Typ.pv_mk,Val.pv_mk] at *
 simp only[bR] at *
 have c:vk=5:=by omega
 subst hk c
 rw[<- hR] at h85
 rw[hf] at h84
 simp(disch:=try exact dI) only[Q81,push_cast,seval]
 refine ab.pure h84 rfl ?_
 refine zgZ ?_
 refine ab.lentK h85 [0,1] rfl qsZ qsZ ?_
 refine zgZ ?_
 exact aG [] qsZ
theorem BY (n:Nat)(t:Typ)(v:Val)(p:List UInt8)(l:List Mis)(R:Bool×List Mis)(hd:dep (n+1) v)(ht:eJ (n+1) t)(hv:v.ok)(hp:p.length<=2000)(hi:nS false l)(hR:R=dH false l (bw (n+1) t v p))(h:¬ (t.kind<1\/10<t.kind\/¬ v.kind=t.kind))(hf:ae v=true)(hk:t.kind=4)(hw:t.words.length=0) :
  bf Tryz.prog au 2 81 [.ptr 0 0,.pv t.pv,.pv v.pv,.pv (.str p)] (bR false l) (.pv (.tup [])) (bR R.1 R.2):=by
 have hd0:=hd
 simp only[dep] at hd0
 have h84:=bM v (by omega) (by omega) (by omega)
 have h85:=fun k=>lU false l t p k (by have:=hi.1;omega) _ rfl
 have hvo:=hv
 have h85:=h85 v.text.length
 rw[aK,dW h hf (.inl hk) (fun _=>hw)] at hR
 obtain⟨k,m,M,s,w,e,fs⟩:=t
 obtain⟨vk,vi,vs,vt,vl,vf⟩:=v
 simp only[dep,eJ,Val.lst,Val.fields,Val.text,Typ.fields,Typ.words,Typ.elem,Typ.kind,Val.kind,Typ.min,Typ.max,Typ.scale,Val.num,Val.scale] at *
 obtain⟨d1,d2,d3,d4,d5⟩:=hd
 obtain⟨t1,t2,t3,t4⟩:=ht
 refine bf.intro Q81.2 (by simp[Q81]) ?_
 rw[Typ.pv_mk,Val.pv_mk] at *
 simp only[bR] at *
 have c:vk=4:=by omega
 subst hk c
 rw[<- hR] at h85
 rw[hf] at h84
 have hz:¬ (0:Int)<w.length:=by omega
 simp(disch:=try exact dI) only[Q81,push_cast,seval]
 refine ab.pure h84 rfl ?_
 refine zgZ ?_
 refine ab.lentK h85 [0,1] rfl qsZ qsZ ?_
 refine zgZ ?_
 exact aG [] qsZ
theorem wq (n:Nat)(t:Typ)(v:Val)(p:List UInt8)(l:List Mis)(R:Bool×List Mis)(hd:dep (n+1) v)(ht:eJ (n+1) t)(hv:v.ok)(hp:p.length<=2000)(hi:nS false l)(hR:R=dH false l (bw (n+1) t v p))(h:¬ (t.kind<1\/10<t.kind\/¬ v.kind=t.kind))(hf:ae v=true)(hk:t.kind=4)(hw:0<t.words.length)(ha:(t.words.any fun x=>decide (x=v.text))=true) :
  bf Tryz.prog au 2 81 [.ptr 0 0,.pv t.pv,.pv v.pv,.pv (.str p)] (bR false l) (.pv (.tup [])) (bR R.1 R.2):=by
 have hd0:=hd
 simp only[dep] at hd0
 have h84:=bM v (by omega) (by omega) (by omega)
 have h86:=fw t.words v.text (by have:=ht;simp only[eJ] at this;omega)
 have hvo:=hv
 rw[aK,l6 h hf hk hw ha,gX] at hR
 obtain⟨k,m,M,s,w,e,fs⟩:=t
 obtain⟨vk,vi,vs,vt,vl,vf⟩:=v
 simp only[dep,eJ,Val.lst,Val.fields,Val.text,Typ.fields,Typ.words,Typ.elem,Typ.kind,Val.kind,Typ.min,Typ.max,Typ.scale,Val.num,Val.scale] at *
 obtain⟨d1,d2,d3,d4,d5⟩:=hd
 obtain⟨t1,t2,t3,t4⟩:=ht
 refine bf.intro Q81.2 (by simp[Q81]) ?_
 rw[Typ.pv_mk,Val.pv_mk] at *
 simp only[bR] at *
 have c:vk=4:=by omega
 subst hk c hR
 rw[hf] at h84
 rw[ha] at h86
 have hz:(0:Int)<w.length:=by omega
 simp(disch:=try exact dI) only[Q81,push_cast,seval]
 refine ab.pure h84 rfl ?_
 refine zgZ ?_
 refine ab.pure h86 rfl ?_
 refine zgZ ?_
 exact aG [] qsZ
theorem wu (n:Nat)(t:Typ)(v:Val)(p:List UInt8)(l:List Mis)(R:Bool×List Mis)(hd:dep (n+1) v)(ht:eJ (n+1) t)(hv:v.ok)(hp:p.length<=2000)(hi:nS false l)(hR:R=dH false l (bw (n+1) t v p))(h:¬ (t.kind<1\/10<t.kind\/¬ v.kind=t.kind))(hf:ae v=true)(hk:t.kind=4)(hw:0<t.words.length)(ha:(t.words.any fun x=>decide (x=v.text))=false) :
  bf Tryz.prog au 2 81 [.ptr 0 0,.pv t.pv,.pv v.pv,.pv (.str p)] (bR false l) (.pv (.tup [])) (bR R.1 R.2):=by
 have hd0:=hd
 simp only[dep] at hd0
 have h84:=bM v (by omega) (by omega) (by omega)
 have h83:=fun c=>lh false l p c (by have:=hi.1;omega)
 have h86:=fw t.words v.text (by have:=ht;simp only[eJ] at this;omega)
 have hvo:=hv
 have h83:=h83 4
 rw[aK,iV h hf hk hw ha,dx] at hR
 obtain⟨k,m,M,s,w,e,fs⟩:=t
 obtain⟨vk,vi,vs,vt,vl,vf⟩:=v
 simp only[dep,eJ,Val.lst,Val.fields,Val.text,Typ.fields,Typ.words,Typ.elem,Typ.kind,Val.kind,Typ.min,Typ.max,Typ.scale,Val.num,Val.scale] at *
 obtain⟨d1,d2,d3,d4,d5⟩:=hd
 obtain⟨t1,t2,t3,t4⟩:=ht
 refine bf.intro Q81.2 (by simp[Q81]) ?_
 rw[Typ.pv_mk,Val.pv_mk] at *
 simp only[bR] at *
 have c:vk=4:=by omega
 subst hk c
 rw[<- hR] at h83
 rw[hf] at h84
 rw[ha] at h86
 have hz:(0:Int)<w.length:=by omega
 simp(disch:=try exact dI) only[Q81,push_cast,seval]
 refine ab.pure h84 rfl ?_
 refine zgZ ?_
 refine ab.pure h86 rfl ?_
 refine zgZ ?_
 refine ab.lentK h83 [0,1] rfl qsZ qsZ ?_
 refine zgZ ?_
 exact aG [] qsZ
theorem BU (ih:LL)(t:Typ)(v:Val)(p:List UInt8)(l:List Mis)(R:Bool×List Mis)(hd:dep 2 v)(ht:eJ 2 t)(hsc:∀ g∈t.fields,g.typ.kind<=7)(hv:v.ok)(hp:p.length<=1000)(hi:nS false l)(hR:R=dH false l (bw 2 t v p))(h:¬ (t.kind<1\/10<t.kind\/¬ v.kind=t.kind))(hf:ae v=true)(hk:t.kind=9) :
  bf Tryz.prog au 2 81 [.ptr 0 0,.pv t.pv,.pv v.pv,.pv (.str p)] (bR false l) (.pv (.tup [])) (bR R.1 R.2):=by
 have hd0:=hd
 simp only[dep] at hd0
 have h84:=bM v (by omega) (by omega) (by omega)
 have h88:=fun h9 hR=>zw ih t v p false l R hd ht hsc hv h9 hp hi hR
 have hvo:=hv
 rw[aK,gD h hf hk] at hR
 have h88:=h88 (by omega) hR
 obtain⟨k,m,M,s,w,e,fs⟩:=t
 obtain⟨vk,vi,vs,vt,vl,vf⟩:=v
 simp only[dep,eJ,Val.lst,Val.fields,Val.text,Typ.fields,Typ.words,Typ.elem,Typ.kind,Val.kind,Typ.min,Typ.max,Typ.scale,Val.num,Val.scale] at *
 obtain⟨d1,d2,d3,d4,d5⟩:=hd
 obtain⟨t1,t2,t3,t4⟩:=ht
 refine bf.intro Q81.2 (by simp[Q81]) ?_
 rw[Typ.pv_mk,Val.pv_mk] at *
 simp only[bR] at *
 have c:vk=9:=by omega
 subst hk c
 rw[hf] at h84
 simp(disch:=try exact dI) only[Q81,push_cast,seval]
 refine ab.pure h84 rfl ?_
 refine zgZ ?_
 refine ab.lentK h88 [0,1] rfl qsZ qsZ ?_
 refine zgZ ?_
 exact aG [] qsZ
theorem BT:LL:=by
 intro t v p d l R hd ht h7 hv hp hi hR
 cases d with
 | true=>
   rw[lg] at hR;subst hR
   obtain⟨k,m,M,s,w,e,fs⟩:=t
   obtain⟨vk,vi,vs,vt,vl,vf⟩:=v
   refine bf.intro Q81.2 (by simp[Q81]) ?_
   simp(disch:=try exact dI) only[Q81,bR,Typ.pv_mk,Val.pv_mk,push_cast,seval]
   exact aG [] qsZ
 | false=>
   by_cases h:t.kind<1\/10<t.kind\/¬ v.kind=t.kind
   ·exact iY 0 t v p l R hd ht hv hp hi hR h
   ·by_cases hf:ae v=false
    ·exact kH 0 t v p l R hd ht hv hp hi hR h hf
    ·have hf:ae v=true:=by simpa using hf
     have hk:t.kind=1\/t.kind=2\/t.kind=3\/t.kind=4\/t.kind=5\/t.kind=6\/t.kind=7:=by omega
     rcases hk with hk | hk | hk | hk | hk | hk | hk
     ·exact B1 0 t v p l R hd ht hv hp hi hR h hf hk
     ·exact B0 0 t v p l R hd ht hv hp hi hR h hf hk
     ·by_cases hs:v.scale=t.scale
      ·exact wv 0 t v p l R hd ht hv hp hi hR h hf hk hs
      ·exact BZ 0 t v p l R hd ht hv hp hi hR h hf hk hs
     ·by_cases hw:t.words.length=0
      ·exact BY 0 t v p l R hd ht hv hp hi hR h hf hk hw
      ·cases ha:(t.words.any fun x=>decide (x=v.text)) with
       | true=>exact wq 0 t v p l R hd ht hv hp hi hR h hf hk (by omega) ha
       | false=>exact wu 0 t v p l R hd ht hv hp hi hR h hf hk (by omega) ha
     ·exact BX 0 t v p l R hd ht hv hp hi hR h hf hk
     ·exact BW 0 t v p l R hd ht hv hp hi hR h hf hk
     ·exact BV 0 t v p l R hd ht hv hp hi hR h hf hk
theorem KN (t:Typ)(v:Val)(R:Bool×List Mis)(hd:dep 2 v)(ht:eJ 2 t)(h9:t.kind=9)(hsc:∀ g∈t.fields,g.typ.kind<=7)(hv:v.ok)(hR:R=dH false [] (bw 2 t v [])) :
  bf Tryz.prog au 2 81 [.ptr 0 0,.pv t.pv,.pv v.pv,.pv (.str [])] (bR false []) (.pv (.tup [])) (bR R.1 R.2):=by
 have hi:nS false []:=⟨by simp,by simp⟩
 by_cases h:t.kind<1\/10<t.kind\/¬ v.kind=t.kind
 ·exact iY 1 t v [] [] R hd ht hv (by simp) hi hR h
 ·by_cases hf:ae v=false
  ·exact kH 1 t v [] [] R hd ht hv (by simp) hi hR h hf
  ·exact BU BT t v [] [] R hd ht hsc hv (by simp) hi hR h (by simpa using hf) h9
theorem Dl (a l:List Mis):(dH false l a).1=!a.isEmpty:=by
 cases a with
 | nil=>rfl
 | cons m r=>rw[dH,ia,lg];rfl
theorem NJ (t:Typ)(v:Val)(ht:eJ 2 t)(h9:t.kind=9)(hsc:∀ g∈t.fields,g.typ.kind<=7)(hv:v.ok):ag Tryz.prog au 42 [t.pv,v.pv] (.bool (bw 2 t v []).isEmpty):=by
 have h56:=KN t v _ (tN 2 v hv) ht h9 hsc hv rfl
 have e:=Dl (bw 2 t v []) []
 generalize dH false [] (bw 2 t v [])=S at *
 obtain⟨Sd,Sl⟩:=S
 simp only at e
 have e2:(bw 2 t v []).isEmpty=!Sd:=by rw[e,Bool.not_not]
 rw[e2]
 obtain⟨k,m,M,s,w,e,fs⟩:=t
 obtain⟨vk,vi,vs,vt,vl,vf⟩:=v
 simp only[bR,Typ.pv_mk,Val.pv_mk,List.map_nil] at h56
 refine ag.intro Q42.2 (by simp[Q42]) ?_
 simp(disch:=try exact dI) only[Q42,Typ.pv_mk,Val.pv_mk,push_cast,seval]
 refine ab.lentK h56 [4,2] rfl qsZ qsZ ?_
 exact qsZ
end Go.Proofs.YtbojpfpliibfbaaGreatDoor
