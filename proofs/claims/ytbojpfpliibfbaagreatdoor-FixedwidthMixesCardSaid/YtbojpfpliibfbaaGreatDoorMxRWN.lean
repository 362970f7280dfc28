/- A part of the proof. -/
import Derived.Test.YtbojpfpliibfbaaGreatDoorMxRWD
import Derived.Test.YtbojpfpliibfbaaGreatDoorMxR17
set_option maxHeartbeats 16000000
set_option maxRecDepth 100000
set_option linter.unusedVariables false
set_option linter.unusedSimpArgs false
namespace Go.Proofs.YtbojpfpliibfbaaGreatDoor
open Go Go.Ab
attribute [local irreducible] vc
def gZ:Bool->List Mis->Mis->Bool×List Mis
 | true,l,_=>(true,l)
 | false,l,m=>(true,l++[m])
def fD:Bool->List Mis->List Mis->Bool×List Mis
 | d,l,[]=>(d,l)
 | d,l,m::r=>fD (gZ d l m).1 (gZ d l m).2 r
def jh (d:Bool)(l:List Mis):List Blk:=[.cells 122 true [.clo 80 [] [.ptr 1 0],.pv (.bool d)],.cells 4 true [.pv (.bool (!d))]]
theorem T7 (d:Bool)(m:Mis):bO Tryz.prog aq 1 80 [.pv m.pv,.ptr 0 0] [.cells 4 true [.pv (.bool d)]] (.pv (.bool false)) [.cells 4 true [.pv (.bool false)]]:=by
 obtain⟨p,c⟩:=m
 refine bO.intro Q80.2 (by simp[Q80]) ?_
 simp(disch:=try exact dI) only[Q80,Mis.pv_mk,push_cast,seval]
 exact aM [] qsZ
theorem uJ (d:Bool)(l:List Mis)(p:List UInt8)(c:Int)(hl:l.length<=100000):bO Tryz.prog aq 2 134 [.ptr 0 0,.pv (.str p),.pv (.int .i64 c)] (jh d l) (.pv (.tup [])) (jh (gZ d l (.mk p c)).1 (gZ d l (.mk p c)).2):=by
 have h63:=T7 true (.mk p c)
 rw[Mis.pv_mk] at h63
 refine bO.intro Rj.2 (by simp[Rj]) ?_
 cases d with
 | true=>
   rw[gZ]
   simp(disch:=try exact dI) only[Rj,jh,push_cast,seval]
   exact aM [] qsZ
 | false=>
   rw[gZ]
   simp(disch:=try exact dI) only[Rj,jh,push_cast,seval]
   refine ab.lentK h63 [1] rfl qsZ qsZ ?_
   refine zgZ ?_
   exact aM [] qsZ
theorem gR (d:Bool)(l:List Mis)(m:Mis):fD d l [m]=gZ d l m:=rfl
theorem jy (d:Bool)(l:List Mis):fD d l []=(d,l):=rfl
theorem jz:∀ (a b:List Mis) (d:Bool) (l:List Mis),fD d l (a++b)=fD (fD d l a).1 (fD d l a).2 b
 | [],b,d,l=>rfl
 | m::r,b,d,l=>by rw[List.cons_append,fD,jz r b,fD]
theorem ld:∀ (a:List Mis) (l:List Mis),fD true l a=(true,l)
 | [],l=>rfl
 | m::r,l=>by rw[fD,gZ];exact ld r l
theorem OJ (d:Bool)(l:List Mis)(t:Typ)(p:List UInt8)(n:Int)(hl:l.length<=100000)(R:Bool×List Mis)(hR:R=fD d l (lp t.min t.max p n)) :
  bO Tryz.prog aq 2 136 [.ptr 0 0,.pv t.pv,.pv (.str p),.pv (.int .i64 n)] (jh d l) (.pv (.tup [])) (jh R.1 R.2):=by
 have h83:=uJ d l p 2 hl
 obtain⟨k,m,M,s,w,e,f⟩:=t
 simp only[Typ.min,Typ.max] at hR
 refine bO.intro QP.2 (by simp[QP]) ?_
 unfold jh at h83 ⊢
 by_cases h1:n<m
 ·rw[I6 (.inl h1),gR] at hR
  rw[<- hR] at h83
  simp(disch:=try exact dI) only[QP,Typ.pv_mk,push_cast,seval]
  refine ab.lentK h83 [0,1] rfl qsZ qsZ ?_
  refine zgZ ?_
  exact aM [] qsZ
 ·by_cases h2:M<n
  ·rw[I6 (.inr h2),gR] at hR
   rw[<- hR] at h83
   simp(disch:=try exact dI) only[QP,Typ.pv_mk,push_cast,seval]
   refine ab.lentK h83 [0,1] rfl qsZ qsZ ?_
   refine zgZ ?_
   exact aM [] qsZ
  ·rw[OI (fun h=>h.elim h1 h2),jy] at hR
   subst hR
   simp(disch:=try exact dI) only[QP,Typ.pv_mk,push_cast,seval]
   exact aM [] qsZ
theorem wT {d:Bool}{l:List Mis}(h:RW d l)(m:Mis):RW (gZ d l m).1 (gZ d l m).2:=by
 cases d with
 | true=>exact h
 | false=>
   have:=h.2 rfl
   exact⟨by simp[gZ];omega,fun hh=>by simp[gZ] at hh⟩
def Nm:=RW
theorem jq:∀ (a:List Mis) {d:Bool} {l:List Mis},Nm d l->Nm (fD d l a).1 (fD d l a).2
 | [],d,l,h=>h
 | m::r,d,l,h=>jq r (wT h m)
def QU:Prop:=∀ (t:Typ) (v:Val) (p:List UInt8) (d:Bool) (l:List Mis) (R:Bool×List Mis),dep 1 v->yD 1 t->t.kind<=7->v.ok->p.length<=2000->Nm d l->R=fD d l (bL 1 t v p) ->
 bO Tryz.prog aq 2 81 [.ptr 0 0,.pv t.pv,.pv v.pv,.pv (.str p)] (jh d l) (.pv (.tup [])) (jh R.1 R.2)
theorem AK (ih:QU)(t:Typ)(v:Val)(p:List UInt8)(d:Bool)(l:List Mis)(R:Bool×List Mis)(hd:dep 2 v)(ht:yD 2 t)(hsc:∀ g∈t.fields,g.typ.kind<=7)(hv:v.ok)(hk:v.kind=9)(hp:p.length<=1000)(hi:Nm d l)(hR:R=fD d l (AN (bL 1) t v p)) :
  bO Tryz.prog aq 2 138 [.ptr 0 0,.pv t.pv,.pv v.pv,.pv (.str p)] (jh d l) (.pv (.tup [])) (jh R.1 R.2):=by
 have h113:=fun name=>nw v name hv hk
 have h89:=fun name=>qD t name
 obtain⟨k,m,M,s,w,e,fs⟩:=t
 obtain⟨vk,vi,vs,vt,vl,vf⟩:=v
 simp only[dep,yD,Val.lst,Val.fields,Val.text,Typ.fields,Typ.words,Typ.elem,AN] at hd ht hR h113 h89 hsc
 obtain⟨d1,d2,d3,d4,d5⟩:=hd
 obtain⟨t1,t2,t3,t4⟩:=ht
 rw[Val.ok_mk] at hv
 refine bO.intro Tu.2 (by simp[Tu]) ?_
 rw[Typ.pv_mk,Val.pv_mk] at *
 generalize hF1:eI (bL 1) vf p=F1 at hR
 generalize hF2:j8 fs p=F2 at hR
 simp(disch:=try exact dI) only[Tu,jh,push_cast,seval]
 refine az ([]) (fun i:Nat=>[(19,.pv (.int .i64 (i:Int)))]) (fun i=>[(0,.cells 122 true [.clo 80 [] [.ptr 1 0],.pv (.bool (fD d l ((fs.take i).flatMap F1)).1)]),(1,.cells 4 true [.pv (.bool (!(fD d l ((fs.take i).flatMap F1)).1))])]) (fun i=>i<=fs.length) (fun i=>fs.length - i) (0) ?_;intro e0 σ0 n0 h0;simp(disch:=try exact dI) only[push_cast,seval] at h0;obtain⟨rfl,rfl,rfl⟩:=h0;refine⟨?_,?_,?_⟩
 ·simp(disch:=try exact dI) only[fD,List.flatMap_nil,push_cast,seval]
 ·omega
 ·intro i hi2
  by_cases hlt:i<fs.length
  ·have hltI:(i:Int)<fs.length:=by omega
   obtain⟨x,hx⟩:∃ x,fs[i]? = some x:=⟨_,List.getElem?_eq_getElem hlt⟩
   have hsn:=py F1 hx
   have hinv:=jq ((fs.take i).flatMap F1) hi
   have happ:=jz ((fs.take i).flatMap F1) (F1 x) d l
   rw[<- hsn] at happ
   generalize fD d l ((fs.take i).flatMap F1)=S at *
   obtain⟨Sd,Sl⟩:=S
   simp only at hinv happ
   obtain⟨hxn,hxt⟩:=t4 x (List.mem_of_getElem? hx)
   have hxk:=hsc x (List.mem_of_getElem? hx)
   have hF1x:F1 x=eI (bL 1) vf p x:=by rw[hF1]
   obtain⟨x1,x2,x3,⟨y1,y2,y3,y4,y5,y6,y7⟩,x5⟩:=x
   simp only[TFd.name,TFd.typ] at hxn hxt hxk
   have hc:=h113 x2 (by omega)
   have hul:=lG p x2
   have hu:=sT p x2 (by omega) (by omega)
   cases hfd:vf.find? (aF x2) with
   | some y=>
     rw[hfd] at hc
     rw[kG (by exact hfd)] at hF1x
     have hym:=List.mem_of_find?_eq_some hfd
     have hyd:=(d5 y hym).2
     have hyo:=hv.2.2.2.2.2.2.2 y hym
     obtain⟨yn,yv⟩:=y
     rw[Fld.ok_mk] at hyo
     simp only[Fld.value,TFd.typ,TFd.name] at hyd hF1x
     have hih:=ih (.mk y1 y2 y3 y4 y5 y6 y7) yv (dp p x2) Sd Sl _ hyd hxt hxk hyo.2 (by omega) hinv rfl
     rw[<- hF1x,<- happ] at hih
     obtain⟨z1,z2,z3,z4,z5,z6⟩:=yv
     simp only[vlR,Option.map_some,Option.getD_some,Option.isSome_some,Fld.value,Val.pv_mk] at hc
     simp only[jh,Typ.pv_mk,Val.pv_mk] at hih
     simp(disch:=try exact dI) only[hx,TFd.pv_mk,Typ.pv_mk,push_cast,seval]
     refine ab.pure hc rfl ?_
     simp(disch:=try exact dI) only[TFd.pv_mk,Typ.pv_mk,push_cast,seval]
     refine am hu rfl ?_
     refine zgZ ?_
     refine ab.lentK hih [0,1] rfl qsZ qsZ ?_
     refine zgZ ?_
     exact⟨i+1,aV qsZ,by omega,by omega⟩
   | none=>
     rw[hfd] at hc
     simp only[vlR,Option.map_none,Option.getD_none,Option.isSome_none,eM,Val.pv_mk,List.map_nil] at hc
     by_cases hn:x3=2
     ·rw[xd (by exact hfd) (by exact hn)] at hF1x
      rw[hF1x,jy] at happ
      simp(disch:=try exact dI) only[hx,TFd.pv_mk,Typ.pv_mk,hn,push_cast,seval]
      refine ab.pure hc rfl ?_
      simp(disch:=try exact dI) only[TFd.pv_mk,Typ.pv_mk,push_cast,seval]
      exact⟨i+1,aV (by simp(disch:=try exact dI) only[happ,push_cast,seval]),by omega,by omega⟩
     ·rw[kH (by exact hfd) (by exact hn)] at hF1x
      simp only[TFd.name] at hF1x
      rw[hF1x,gR] at happ
      have h83:=uJ Sd Sl (dp p x2) 5 (by have:=hinv.1;omega)
      rw[<- happ] at h83
      simp only[jh] at h83
      simp(disch:=try exact dI) only[hx,TFd.pv_mk,Typ.pv_mk,push_cast,seval]
      refine ab.pure hc rfl ?_
      simp(disch:=try exact dI) only[TFd.pv_mk,Typ.pv_mk,push_cast,seval]
      refine ab.pure hu rfl ?_
      refine zgZ ?_
      refine ab.lentK h83 [0,1] rfl qsZ qsZ ?_
      refine zgZ ?_
      exact⟨i+1,aV qsZ,by omega,by omega⟩
  ·have hltI:¬ (i:Int)<fs.length:=by omega
   have hinv:=jq (fs.flatMap F1) hi
   rw[jz] at hR
   rw[s7 hlt]
   generalize fD d l (fs.flatMap F1)=S at *
   obtain⟨Sd,Sl⟩:=S
   simp only at hinv hR
   refine zgZ ?_
   refine az ([]) (fun i:Nat=>[(53,.pv (.int .i64 (i:Int)))]) (fun i=>[(0,.cells 122 true [.clo 80 [] [.ptr 1 0],.pv (.bool (fD Sd Sl ((vf.take i).flatMap F2)).1)]),(1,.cells 4 true [.pv (.bool (!(fD Sd Sl ((vf.take i).flatMap F2)).1))])]) (fun i=>i<=vf.length) (fun i=>vf.length - i) (0) ?_;intro e0 σ0 n0 h0;simp(disch:=try exact dI) only[push_cast,seval] at h0;obtain⟨rfl,rfl,rfl⟩:=h0;refine⟨?_,?_,?_⟩
   ·simp(disch:=try exact dI) only[fD,List.flatMap_nil,push_cast,seval]
   ·omega
   ·intro i hi2
    by_cases hlt:i<vf.length
    ·have hltI:(i:Int)<vf.length:=by omega
     obtain⟨x,hx⟩:∃ x,vf[i]? = some x:=⟨_,List.getElem?_eq_getElem hlt⟩
     have hsn:=py F2 hx
     have hinv2:=jq ((vf.take i).flatMap F2) hinv
     have happ:=jz ((vf.take i).flatMap F2) (F2 x) Sd Sl
     rw[<- hsn] at happ
     generalize fD Sd Sl ((vf.take i).flatMap F2)=T at *
     obtain⟨Td,Tl⟩:=T
     simp only at hinv2 happ
     have hxn:=(d5 x (List.mem_of_getElem? hx)).1
     have hF2x:F2 x=j8 fs p x:=by rw[hF2]
     obtain⟨x1,⟨y1,y2,y3,y4,y5,y6⟩⟩:=x
     simp only[Fld.name] at hxn
     have hc:=h89 x1 (by omega)
     have hul:=lG p x1
     have hu:=sT p x1 (by omega) (by omega)
     cases hfd:fs.find? (named x1) with
     | some z=>
       rw[hfd] at hc
       rw[j6 (by exact hfd)] at hF2x
       rw[hF2x,jy] at happ
       obtain⟨z1,z2,z3,⟨w1,w2,w3,w4,w5,w6,w7⟩,z5⟩:=z
       simp only[tfR,Option.getD_some,Option.isSome_some,TFd.pv_mk,Typ.pv_mk] at hc
       simp(disch:=try exact dI) only[hx,Fld.pv_mk,Val.pv_mk,push_cast,seval]
       refine ab.pure hc rfl ?_
       refine zgZ ?_
       exact⟨i+1,aV (by simp(disch:=try exact dI) only[happ,push_cast,seval]),by omega,by omega⟩
     | none=>
       rw[hfd] at hc
       rw[j7 (by exact hfd)] at hF2x
       simp only[Fld.name] at hF2x
       rw[hF2x,gR] at happ
       have h83:=uJ Td Tl (dp p x1) 6 (by have:=hinv2.1;omega)
       rw[<- happ] at h83
       simp only[jh] at h83
       simp only[tfR,Option.getD_none,Option.isSome_none,iM,TFd.pv_mk,Typ.pv_mk,List.map_nil] at hc
       simp(disch:=try exact dI) only[hx,Fld.pv_mk,Val.pv_mk,push_cast,seval]
       refine ab.pure hc rfl ?_
       refine zgZ ?_
       refine ab.pure hu rfl ?_
       refine zgZ ?_
       refine ab.lentK h83 [0,1] rfl qsZ qsZ ?_
       refine zgZ ?_
       exact⟨i+1,aV qsZ,by omega,by omega⟩
    ·have hltI:¬ (i:Int)<vf.length:=by omega
     rw[s7 hlt]
     rw[<- hR]
     refine zgZ ?_
     exact aM [] qsZ
theorem C7 (n:Nat)(t:Typ)(v:Val)(p:List UInt8)(l:List Mis)(hd:dep (n+1) v)(ht:yD (n+1) t)(hp:p.length<=2000)(hi:Nm false l)(hk:t.kind<=7\/t.kind=9)
  (h88:t.kind=9->v.kind=9->bO Tryz.prog aq 2 138 [.ptr 0 0,.pv t.pv,.pv v.pv,.pv (.str p)] (jh false l) (.pv (.tup [])) (jh (fD false l (AN (bL n) t v p)).1 (fD false l (AN (bL n) t v p)).2)) :
  bO Tryz.prog aq 2 81 [.ptr 0 0,.pv t.pv,.pv v.pv,.pv (.str p)] (jh false l) (.pv (.tup [])) (jh (fD false l (bL (n+1) t v p)).1 (fD false l (bL (n+1) t v p)).2):=by
 simp only[dep] at hd
 simp only[yD] at ht
 have h84:=HJ v (by omega) (by omega) (by omega)
 have h83:=fun c=>uJ false l p c (by have:=hi.1;omega)
 have h85:=fun k=>OJ false l t p k (by have:=hi.1;omega) _ rfl
 have h86:=iG t.words v.text (by omega)
 rw[bz]
 have hc:=LC (bL n) t v p hk rfl rfl rfl
 clear hd ht hi hp hk
 generalize aL v=F at h84 hc
 generalize (t.words.any fun x=>decide (x=v.text))=A at h86 hc
 generalize da (bL n) t v p=X at hc ⊢
 rcases hc with ⟨a,e⟩ | ⟨a,b,e⟩ | ⟨a,b,c,e⟩ | ⟨a,b,c,rfl,e⟩ | ⟨hk,c,rfl,e⟩ | ⟨hk,c,rfl,e⟩ | ⟨hk,c,rfl,e⟩ | ⟨hk,c,rfl,e⟩ | ⟨hk,c,rfl,hs,e⟩ | ⟨hk,c,rfl,hs,e⟩ | ⟨hk,c,rfl,e⟩ | ⟨hk,c,rfl,hz,e⟩ | ⟨hk,c,rfl,hz,rfl,e⟩ | ⟨hk,c,rfl,hz,rfl,e⟩ | ⟨hk,c,rfl,e⟩
 all_goals
  first
   | (have e1:X=[.mk p 1]:=e;clear e1;have hL:=h83 1)
   | (have e1:X=[.mk p 8]:=e;clear e1;have hL:=h83 8)
   | (have e1:X=[.mk p 3]:=e;clear e1;have hL:=h83 3)
   | (have e1:X=[.mk p 4]:=e;clear e1;have hL:=h83 4)
   | (have e1:X=lp t.min t.max p v.num:=e;clear e1;have hL:=h85 v.num)
   | (have e1:X=lp t.min t.max p v.text.length:=e;clear e1;have hL:=h85 v.text.length)
   | have hL:=h88 hk c
   | skip
  subst e
  clear h83 h85 h88
  obtain⟨k,m,M,s,w,e,fs⟩:=t
  obtain⟨vk,vi,vs,vt,vl,vf⟩:=v
  simp only[Val.text,Typ.words,Typ.kind,Val.kind,Typ.min,Typ.max,Typ.scale,Val.num,Val.scale] at *
  try subst hk
  try subst c
  try subst hs
  simp only[jh,Typ.pv_mk,Val.pv_mk,gR,jy] at *
  refine bO.intro Q81.2 (by simp[Q81]) ?_
  simp(disch:=try exact dI) only[Q81, *,push_cast,seval]
  try
   refine ab.pure h84 rfl ?_
   simp(disch:=try exact dI) only[*,push_cast,seval]
  try
   refine ab.pure h86 rfl ?_
   refine zgZ ?_
   skip
  try
   refine ab.lentK hL [0,1] rfl qsZ qsZ ?_
   refine zgZ ?_
   skip
  exact aM [] qsZ
theorem C6:QU:=by
 intro t v p d l R hd ht h7 hv hp hi hR
 cases d with
 | true=>
   rw[ld] at hR;subst hR
   obtain⟨k,m,M,s,w,e,fs⟩:=t
   obtain⟨vk,vi,vs,vt,vl,vf⟩:=v
   refine bO.intro Q81.2 (by simp[Q81]) ?_
   simp(disch:=try exact dI) only[Q81,jh,Typ.pv_mk,Val.pv_mk,push_cast,seval]
   exact aM [] qsZ
 | false=>
   subst hR
   exact C7 0 t v p l hd ht hp hi (.inl h7) (fun h=>absurd h (by omega))
theorem Md (t:Typ)(v:Val)(R:Bool×List Mis)(hd:dep 2 v)(ht:yD 2 t)(h9:t.kind=9)(hsc:∀ g∈t.fields,g.typ.kind<=7)(hv:v.ok)(hR:R=fD false [] (bL 2 t v [])) :
  bO Tryz.prog aq 2 81 [.ptr 0 0,.pv t.pv,.pv v.pv,.pv (.str [])] (jh false []) (.pv (.tup [])) (jh R.1 R.2):=by
 have hi:Nm false []:=⟨by simp,by simp⟩
 subst hR
 exact C7 1 t v [] [] hd ht (by simp) hi (.inr h9) fun _ h=>AK C6 t v [] false [] _ hd ht hsc hv h (by simp) hi rfl
theorem Ew (a l:List Mis):(fD false l a).1=!a.isEmpty:=by
 cases a with
 | nil=>rfl
 | cons m r=>rw[fD,gZ,ld];rfl
theorem Pg (t:Typ)(v:Val)(ht:yD 2 t)(h9:t.kind=9)(hsc:∀ g∈t.fields,g.typ.kind<=7)(hv:v.ok):ag Tryz.prog aq 42 [t.pv,v.pv] (.bool (bL 2 t v []).isEmpty):=by
 have h56:=Md t v _ (uj 2 v hv) ht h9 hsc hv rfl
 have e:=Ew (bL 2 t v []) []
 generalize fD false [] (bL 2 t v [])=S at *
 obtain⟨Sd,Sl⟩:=S
 simp only at e
 have e2:(bL 2 t v []).isEmpty=!Sd:=by rw[e,Bool.not_not]
 rw[e2]
 obtain⟨k,m,M,s,w,e,fs⟩:=t
 obtain⟨vk,vi,vs,vt,vl,vf⟩:=v
 simp only[jh,Typ.pv_mk,Val.pv_mk,List.map_nil] at h56
 refine ag.intro Q42.2 (by simp[Q42]) ?_
 simp(disch:=try exact dI) only[Q42,Typ.pv_mk,Val.pv_mk,push_cast,seval]
 refine ab.lentK h56 [4,2] rfl qsZ qsZ ?_
 exact qsZ
theorem xb {k:Int}{b:List TFd}{g:TFd}(h:cC k b g=0):g.name.length<=100:=by
 obtain⟨n,nm,nd,t,d⟩:=g
 rw[gE] at h
 by_cases hn:bw nm=false
 ·rw[if_pos hn] at h;cases h
 have hn:bw nm=true:=by simpa using hn
 simp only[bw,Bool.and_eq_true,decide_eq_true_eq] at hn
 have:=hn.2.1
 simp only[TFd.name];omega
theorem se {t:Typ}(h:lM t=0)(ht:t.ok)(hf:ff t=true):yD 2 t/\∀ g∈t.fields,g.typ.kind<=7:=by
 have hty:=iO h
 obtain⟨h9,_,hs⟩:=cj hf
 have h7:∀ g∈t.fields,g.typ.kind<=7:=fun g hg=>by
  have:=hs g hg
  simp only[scB,Bool.and_eq_true] at this
  exact of_decide_eq_true this.2
 refine⟨?_,h7⟩
 obtain⟨k,m,M,s,w,e,f⟩:=t
 obtain⟨ho,h8,h10⟩:=hty
 obtain⟨he,_⟩:=j5 ho
 rw[Typ.ok_mk] at ht
 obtain⟨_,_,_,_,t1,_,t3,t5,t4,t6⟩:=ht
 refine⟨by simp only[Typ.fields];omega,by simp only[Typ.words];omega,fun x hx=>?_,fun g hg=>?_⟩
 ·simp only[Typ.elem] at hx
  rw[he (fun hk=>by simp only[Typ.kind] at h9;omega)] at hx;cases hx
 ·have hg7:=h7 g hg
  simp only[Typ.fields] at hg
  obtain⟨b,hb⟩:=bY f [] (bh ho).2.2.2 g hg
  refine⟨xb hb,?_⟩
  have hgv:=(h10 (.inl h9) g hg).1
  have hgo:=gh hgv
  have hgt:=(fL (t6 g hg)).1
  obtain⟨n',nm',nd',⟨k',m',M',s',w',e',f'⟩,d'⟩:=g
  simp only[TFd.typ,Typ.kind] at hg7 hgo hgt ⊢
  obtain⟨he',hf'⟩:=j5 hgo
  rw[Typ.ok_mk] at hgt
  obtain⟨_,_,_,_,u1,_,u3,u5,u4,u6⟩:=hgt
  obtain rfl:=he' (by omega)
  obtain rfl:=hf' (by omega)
  exact⟨by simp[Typ.fields],by simp only[Typ.words];omega,fun x hx=>(by cases hx),fun x hx=>(by cases hx)⟩
def nU (t:Typ)(v:Val):Bool:=(bL 2 t v []).isEmpty
theorem Jm {t:Typ}(h:lM t=0)(ht:t.ok)(hf:ff t=true)(v:Val)(hv:v.ok):ag Tryz.prog aq 42 [t.pv,v.pv] (.bool (nU t v)):=Pg t v (se h ht hf).1 (cj hf).1 (se h ht hf).2 hv
theorem tA (s:List UInt8)(k:Nat)(hk:k<=8):ag Tryz.prog aq 213 [.str s,.int .i64 (k:Int)] (I9 s (rz k s)):=by
 refine ag.intro Rd.2 (by simp[Rd]) ?_
 by_cases hl:s.length<k
 ·rw[show rz k s=none from if_neg (by omega)]
  simp(disch:=try exact dI) only[Rd,I9,push_cast,seval]
 ·obtain⟨R,hR⟩:∃ R,R=rz k s:=⟨_,rfl⟩
  rw[<- hR]
  simp(disch:=try exact dI) only[Rd,push_cast,seval]
  refine az ([]) (fun i:Nat=>[(4,.pv (.int .i64 (gU 0 (s.take i)))),(14,.pv (.int .i64 (i:Int)))]) (fun _=>[]) (fun i=>i<=k/\(s.take i).all isD=true) (fun i=>k - i) (0) ?_;intro e0 σ0 n0 h0;simp(disch:=try exact dI) only[push_cast,seval] at h0;obtain⟨rfl,rfl,rfl⟩:=h0;refine⟨?_,?_,?_⟩
  ·refine zgZ ?_
   rfl
  ·exact⟨by omega,by simp⟩
  rintro i ⟨hi,hd⟩
  have hdl:=Pz hd (by simp;omega)
  by_cases hlt:i<k
  ·obtain⟨c,hc⟩:∃ c,s[i]? = some c:=⟨_,List.getElem?_eq_getElem (by omega)⟩
   have hcl:=c.toNat_lt
   have hw:=mC (n:=(c.toNat:Int)) (by omega) (by omega)
   have hts:=aH hc
   by_cases hcd:isD c=true
   ·have hb:=kv hcd
    have hin:=dz (n:=(c.toNat:Int)) (lo:=48) (hi:=57) ⟨by omega,by omega⟩
    have hw2:=mC (n:=(c.toNat:Int) - 48) (by omega) (by omega)
    have hdv:gU 0 (s.take (i+1))=10*gU 0 (s.take i)+((c.toNat:Int) - 48):=by rw[hts,jv]
    have hd2:(s.take (i+1)).all isD=true:=by rw[hts,List.all_append,hd];simp[hcd]
    simp(disch:=try exact dI) only[hc,aG,hw,push_cast,seval]
    refine ab.pure hin rfl ?_
    simp(disch:=try exact dI) only[hc,aG,hw2,push_cast,seval]
    exact⟨i+1,aV (by simp(disch:=try exact dI) only[hdv,push_cast,seval]),⟨by omega,hd2⟩,by omega⟩
   ·have hin:=ni (n:=(c.toNat:Int)) (lo:=48) (hi:=57) (fun h=>hcd (by simp[isD];omega))
    have hnone:R=none:=by
     rw[hR]
     refine if_neg fun h=>hcd ?_
     exact List.all_eq_true.1 h.2 c (List.mem_of_getElem? (i:=i) (by rw[List.getElem?_take_of_lt hlt];exact hc))
    rw[hnone]
    simp(disch:=try exact dI) only[hc,aG,hw,push_cast,seval]
    refine ab.pure hin rfl ?_
    simp(disch:=try exact dI) only[I9,push_cast,seval]
  ·have hik:i=k:=by omega
   subst hik
   have hsome:R=some (gU 0 (s.take i),s.drop i):=by rw[hR];exact if_pos ⟨by omega,hd⟩
   rw[hsome]
   simp(disch:=try exact dI) only[I9,List.take_length,push_cast,seval]
theorem CK (s p:List UInt8):ag Tryz.prog aq 149 [.str s,.str p] (.bool (decide (s.take p.length=p/\p.length<=s.length))):=by
 refine ag.intro QO.2 (by simp[QO]) ?_
 by_cases hl:p.length<=s.length
 ·by_cases he:s.take p.length=p
  ·rw[show decide (s.take p.length=p/\p.length<=s.length)=true from decide_eq_true ⟨he,hl⟩]
   simp(disch:=try exact dI) only[QO,he,push_cast,seval]
  ·rw[show decide (s.take p.length=p/\p.length<=s.length)=false from decide_eq_false (fun h=>he h.1)]
   simp(disch:=try exact dI) only[QO,he,push_cast,seval]
 ·rw[show decide (s.take p.length=p/\p.length<=s.length)=false from decide_eq_false (fun h=>hl h.2)]
  simp(disch:=try exact dI) only[QO,push_cast,seval]
end Go.Proofs.YtbojpfpliibfbaaGreatDoor
