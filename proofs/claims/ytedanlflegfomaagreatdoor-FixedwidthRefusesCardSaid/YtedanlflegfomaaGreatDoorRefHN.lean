/- A part of the proof for FixedwidthRefusesCardSaid. -/
import Derived.Test.YtedanlflegfomaaGreatDoorRefHJ
set_option maxRecDepth 100000
set_option linter.unusedVariables false
set_option linter.unusedSimpArgs false
namespace Go.Proofs.YtedanlflegfomaaGreatDoor
open Go Go.Ab
attribute [local irreducible] vc
def eS:Bool→List Mis→Mis→Bool×List Mis
 | true,l,_=>(true,l)
 | false,l,m=>(true,l++[m])
def bS:Bool→List Mis→List Mis→Bool×List Mis
 | d,l,[]=>(d,l)
 | d,l,m::r=>bS (eS d l m).1 (eS d l m).2 r
def bi (d:Bool)(l:List Mis):List Blk:=[.cells 112 true [.clo 53 [] [.ptr 1 0],.pv (.bool d)],.cells 4 true [.pv (.bool (!d))]]
theorem JQ (d:Bool)(m:Mis):bu Tryz.prog aA 1 53 [.pv m.pv,.ptr 0 0] [.cells 4 true [.pv (.bool d)]] (.pv (.bool false)) [.cells 4 true [.pv (.bool false)]]:=by
 obtain⟨p,c⟩:=m
 refine bu.intro Hk (by simp[F53]) ?_
 simp(disch:=first|exact dI|fail) only[F53,Mis.pv_mk,push_cast,seval]
 exact aJ [] (by simp(disch:=first|exact dI|fail) only[push_cast,seval])
theorem eP (d:Bool)(l:List Mis)(p:List UInt8)(c:Int)(hl:l.length≤100000):bu Tryz.prog aA 2 99 [.ptr 0 0,.pv (.str p),.pv (.int .i64 c)] (bi d l) (.pv (.tup [])) (bi (eS d l (.mk p c)).1 (eS d l (.mk p c)).2):=by
 have h63:=JQ true (.mk p c)
 rw[Mis.pv_mk] at h63
 refine bu.intro GX (by simp[F99]) ?_
 cases d with
 | true=>
   rw[eS]
   simp(disch:=first|exact dI|fail) only[F99,bi,push_cast,seval]
   exact aJ [] (by simp(disch:=first|exact dI|fail) only[push_cast,seval])
 | false=>
   rw[eS]
   simp(disch:=first|exact dI|fail) only[F99,bi,push_cast,seval]
   refine ae.lentK h63 [1] rfl (by simp(disch:=first|exact dI|fail) only[push_cast,seval]) (by simp(disch:=first|exact dI|fail) only[push_cast,seval]) ?_
   simp(disch:=first|exact dI|fail) only[push_cast,seval]
   exact aJ [] (by simp(disch:=first|exact dI|fail) only[push_cast,seval])
theorem bF (d:Bool)(l:List Mis)(m:Mis):bS d l [m]=eS d l m:=rfl
theorem eO (d:Bool)(l:List Mis):bS d l []=(d,l):=rfl
theorem dN:∀ (a b:List Mis) (d:Bool) (l:List Mis),bS d l (a++b)=bS (bS d l a).1 (bS d l a).2 b
 | [],b,d,l=>rfl
 | m::r,b,d,l=>by rw[List.cons_append,bS,dN r b,bS]
theorem g7:∀ (a:List Mis) (l:List Mis),bS true l a=(true,l)
 | [],l=>rfl
 | m::r,l=>by rw[bS,eS];exact g7 r l
theorem gq (d:Bool)(l:List Mis)(t:Typ)(p:List UInt8)(n:Int)(hl:l.length≤100000)(R:Bool×List Mis)(hR:R=bS d l (jF t.min t.max p n)) :
  bu Tryz.prog aA 2 101 [.ptr 0 0,.pv t.pv,.pv (.str p),.pv (.int .i64 n)] (bi d l) (.pv (.tup [])) (bi R.1 R.2):=by
 have h83:=eP d l p 2 hl
 obtain⟨k,m,M,s,w,e,f⟩:=t
 simp only[Typ.min,Typ.max] at hR
 refine bu.intro EA (by simp[HM]) ?_
 unfold bi at h83 ⊢
 by_cases h1:n<m
 ·rw[bL (.inl h1),bF] at hR
  rw[← hR] at h83
  simp(disch:=first|exact dI|fail) only[HM,Typ.pv_mk,push_cast,seval]
  refine ae.lentK h83 [0,1] rfl (by simp(disch:=first|exact dI|fail) only[push_cast,seval]) (by simp(disch:=first|exact dI|fail) only[push_cast,seval]) ?_
  simp(disch:=first|exact dI|fail) only[push_cast,seval]
  exact aJ [] (by simp(disch:=first|exact dI|fail) only[push_cast,seval])
 ·by_cases h2:M<n
  ·rw[bL (.inr h2),bF] at hR
   rw[← hR] at h83
   simp(disch:=first|exact dI|fail) only[HM,Typ.pv_mk,push_cast,seval]
   refine ae.lentK h83 [0,1] rfl (by simp(disch:=first|exact dI|fail) only[push_cast,seval]) (by simp(disch:=first|exact dI|fail) only[push_cast,seval]) ?_
   simp(disch:=first|exact dI|fail) only[push_cast,seval]
   exact aJ [] (by simp(disch:=first|exact dI|fail) only[push_cast,seval])
  ·rw[fv (fun h=>h.elim h1 h2),eO] at hR
   subst hR
   simp(disch:=first|exact dI|fail) only[HM,Typ.pv_mk,push_cast,seval]
   exact aJ [] (by simp(disch:=first|exact dI|fail) only[push_cast,seval])
theorem qg {d:Bool}{l:List Mis}(h:It d l)(m:Mis):It (eS d l m).1 (eS d l m).2:=by
 cases d with
 | true=>exact h
 | false=>
   have:=h.2 rfl
   exact⟨by simp[eS];omega,fun hh=>by simp[eS] at hh⟩
def iD:=It
theorem dH:∀ (a:List Mis) {d:Bool} {l:List Mis},iD d l→iD (bS d l a).1 (bS d l a).2
 | [],d,l,h=>h
 | m::r,d,l,h=>dH r (qg h m)
def cG (n:Nat):Prop:=∀ (t:Typ) (v:Val) (p:List UInt8) (d:Bool) (l:List Mis) (R:Bool×List Mis),dep n v→aQ n t→v.ok→p.length+200*n≤100000→iD d l→R=bS d l (aF n t v p) →
 bu Tryz.prog aA 2 54 [.ptr 0 0,.pv t.pv,.pv v.pv,.pv (.str p)] (bi d l) (.pv (.tup [])) (bi R.1 R.2)
theorem sJ (n:Nat)(ih:cG n)(t:Typ)(v:Val)(p:List UInt8)(d:Bool)(l:List Mis)(R:Bool×List Mis)(hd:dep (n+1) v)(ht:aQ (n+1) t)(hv:v.ok)(hk:v.kind=9)(hp:p.length+200*(n+1)≤100000)(hi:iD d l)(hR:R=bS d l (wI (aF n) t v p)) :
  bu Tryz.prog aA 2 103 [.ptr 0 0,.pv t.pv,.pv v.pv,.pv (.str p)] (bi d l) (.pv (.tup [])) (bi R.1 R.2):=by
 have h113:=fun name=>ob v name hv hk
 have h89:=fun name=>d7 t name
 obtain⟨k,m,M,s,w,e,fs⟩:=t
 obtain⟨vk,vi,vs,vt,vl,vf⟩:=v
 simp only[dep,aQ,Val.lst,Val.fields,Val.text,Typ.fields,Typ.words,Typ.elem,wI] at hd ht hR h113 h89
 obtain⟨d1,d2,d3,d4,d5⟩:=hd
 obtain⟨t1,t2,t3,t4⟩:=ht
 rw[Val.ok_mk] at hv
 refine bu.intro Ez (by simp[Jo]) ?_
 rw[Typ.pv_mk,Val.pv_mk] at *
 generalize hF1:cp (aF n) vf p=F1 at hR
 generalize hF2:cz fs p=F2 at hR
 simp(disch:=first|exact dI|fail) only[Jo,bi,push_cast,seval]
 refine az ([]) (fun i:Nat=>[(19,.pv (.int .i64 (i:Int)))]) (fun i=>[(0,.cells 112 true [.clo 53 [] [.ptr 1 0],.pv (.bool (bS d l ((fs.take i).flatMap F1)).1)]),(1,.cells 4 true [.pv (.bool (!(bS d l ((fs.take i).flatMap F1)).1))])]) (fun i=>i≤fs.length) (fun i=>fs.length - i) (0) ?_;intro e0 σ0 n0 h0;simp(disch:=first|exact dI|fail) only[push_cast,seval] at h0;obtain⟨rfl,rfl,rfl⟩:=h0;refine⟨?_,?_,?_⟩
 ·simp(disch:=first|exact dI|fail) only[bS,List.flatMap_nil,push_cast,seval]
 ·omega
 ·intro i hi2
  by_cases hlt:i<fs.length
  ·have hltI:(i:Int)<fs.length:=by omega
   obtain⟨x,hx⟩:∃ x,fs[i]? = some x:=⟨_,List.getElem?_eq_getElem hlt⟩
   have hsn:=eG F1 hx
   have hinv:=dH ((fs.take i).flatMap F1) hi
   have happ:=dN ((fs.take i).flatMap F1) (F1 x) d l
   rw[← hsn] at happ
   generalize bS d l ((fs.take i).flatMap F1)=S at *
   obtain⟨Sd,Sl⟩:=S
   simp only at hinv happ
   obtain⟨hxn,hxt⟩:=t4 x (List.mem_of_getElem? hx)
   have hF1x:F1 x=cp (aF n) vf p x:=by rw[hF1]
   obtain⟨x1,x2,x3,⟨y1,y2,y3,y4,y5,y6,y7⟩,x5⟩:=x
   simp only[TFd.name,TFd.typ] at hxn hxt
   have hc:=h113 x2 (by omega)
   have hul:=dB p x2
   have hu:=nt p x2 (by omega) (by omega)
   cases hfd:vf.find? (bf x2) with
   | some y=>
     rw[hfd] at hc
     rw[cY (by exact hfd)] at hF1x
     have hym:=List.mem_of_find?_eq_some hfd
     have hyd:=(d5 y hym).2
     have hyo:=hv.2.2.2.2.2.2.2 y hym
     obtain⟨yn,yv⟩:=y
     rw[Fld.ok_mk] at hyo
     simp only[Fld.value,TFd.typ,TFd.name] at hyd hF1x
     have hih:=ih (.mk y1 y2 y3 y4 y5 y6 y7) yv (bc p x2) Sd Sl _ hyd hxt hyo.2 (by omega) hinv rfl
     rw[← hF1x,← happ] at hih
     obtain⟨z1,z2,z3,z4,z5,z6⟩:=yv
     simp only[vlR,Option.map_some,Option.getD_some,Option.isSome_some,Fld.value,Val.pv_mk] at hc
     simp only[bi,Typ.pv_mk,Val.pv_mk] at hih
     simp(disch:=first|exact dI|fail) only[hx,TFd.pv_mk,Typ.pv_mk,push_cast,seval]
     refine ae.pure hc rfl ?_
     simp(disch:=first|exact dI|fail) only[TFd.pv_mk,Typ.pv_mk,push_cast,seval]
     refine au hu rfl ?_
     simp(disch:=first|exact dI|fail) only[push_cast,seval]
     refine ae.lentK hih [0,1] rfl (by simp(disch:=first|exact dI|fail) only[push_cast,seval]) (by simp(disch:=first|exact dI|fail) only[push_cast,seval]) ?_
     simp(disch:=first|exact dI|fail) only[push_cast,seval]
     exact⟨i+1,bl (by simp(disch:=first|exact dI|fail) only[push_cast,seval]),by omega,by omega⟩
   | none=>
     rw[hfd] at hc
     simp only[vlR,Option.map_none,Option.getD_none,Option.isSome_none,lC,Val.pv_mk,List.map_nil] at hc
     by_cases hn:x3=2
     ·rw[fk (by exact hfd) (by exact hn)] at hF1x
      rw[hF1x,eO] at happ
      simp(disch:=first|exact dI|fail) only[hx,TFd.pv_mk,Typ.pv_mk,hn,push_cast,seval]
      refine ae.pure hc rfl ?_
      simp(disch:=first|exact dI|fail) only[TFd.pv_mk,Typ.pv_mk,push_cast,seval]
      exact⟨i+1,bl (by simp(disch:=first|exact dI|fail) only[happ,push_cast,seval]),by omega,by omega⟩
     ·rw[em (by exact hfd) (by exact hn)] at hF1x
      simp only[TFd.name] at hF1x
      rw[hF1x,bF] at happ
      have h83:=eP Sd Sl (bc p x2) 5 (by have:=hinv.1;omega)
      rw[← happ] at h83
      simp only[bi] at h83
      simp(disch:=first|exact dI|fail) only[hx,TFd.pv_mk,Typ.pv_mk,push_cast,seval]
      refine ae.pure hc rfl ?_
      simp(disch:=first|exact dI|fail) only[TFd.pv_mk,Typ.pv_mk,push_cast,seval]
      refine ae.pure hu rfl ?_
      simp(disch:=first|exact dI|fail) only[push_cast,seval]
      refine ae.lentK h83 [0,1] rfl (by simp(disch:=first|exact dI|fail) only[push_cast,seval]) (by simp(disch:=first|exact dI|fail) only[push_cast,seval]) ?_
      simp(disch:=first|exact dI|fail) only[push_cast,seval]
      exact⟨i+1,bl (by simp(disch:=first|exact dI|fail) only[push_cast,seval]),by omega,by omega⟩
  ·have hltI:¬ (i:Int)<fs.length:=by omega
   have hinv:=dH (fs.flatMap F1) hi
   rw[dN] at hR
   rw[cl hlt]
   generalize bS d l (fs.flatMap F1)=S at *
   obtain⟨Sd,Sl⟩:=S
   simp only at hinv hR
   simp(disch:=first|exact dI|fail) only[push_cast,seval]
   refine az ([]) (fun i:Nat=>[(53,.pv (.int .i64 (i:Int)))]) (fun i=>[(0,.cells 112 true [.clo 53 [] [.ptr 1 0],.pv (.bool (bS Sd Sl ((vf.take i).flatMap F2)).1)]),(1,.cells 4 true [.pv (.bool (!(bS Sd Sl ((vf.take i).flatMap F2)).1))])]) (fun i=>i≤vf.length) (fun i=>vf.length - i) (0) ?_;intro e0 σ0 n0 h0;simp(disch:=first|exact dI|fail) only[push_cast,seval] at h0;obtain⟨rfl,rfl,rfl⟩:=h0;refine⟨?_,?_,?_⟩
   ·simp(disch:=first|exact dI|fail) only[bS,List.flatMap_nil,push_cast,seval]
   ·omega
   ·intro i hi2
    by_cases hlt:i<vf.length
    ·have hltI:(i:Int)<vf.length:=by omega
     obtain⟨x,hx⟩:∃ x,vf[i]? = some x:=⟨_,List.getElem?_eq_getElem hlt⟩
     have hsn:=eG F2 hx
     have hinv2:=dH ((vf.take i).flatMap F2) hinv
     have happ:=dN ((vf.take i).flatMap F2) (F2 x) Sd Sl
     rw[← hsn] at happ
     generalize bS Sd Sl ((vf.take i).flatMap F2)=T at *
     obtain⟨Td,Tl⟩:=T
     simp only at hinv2 happ
     have hxn:=(d5 x (List.mem_of_getElem? hx)).1
     have hF2x:F2 x=cz fs p x:=by rw[hF2]
     obtain⟨x1,⟨y1,y2,y3,y4,y5,y6⟩⟩:=x
     simp only[Fld.name] at hxn
     have hc:=h89 x1 (by omega)
     have hul:=dB p x1
     have hu:=nt p x1 (by omega) (by omega)
     cases hfd:fs.find? (named x1) with
     | some z=>
       rw[hfd] at hc
       rw[ec (by exact hfd)] at hF2x
       rw[hF2x,eO] at happ
       obtain⟨z1,z2,z3,⟨w1,w2,w3,w4,w5,w6,w7⟩,z5⟩:=z
       simp only[tfR,Option.getD_some,Option.isSome_some,TFd.pv_mk,Typ.pv_mk] at hc
       simp(disch:=first|exact dI|fail) only[hx,Fld.pv_mk,Val.pv_mk,push_cast,seval]
       refine ae.pure hc rfl ?_
       simp(disch:=first|exact dI|fail) only[push_cast,seval]
       exact⟨i+1,bl (by simp(disch:=first|exact dI|fail) only[happ,push_cast,seval]),by omega,by omega⟩
     | none=>
       rw[hfd] at hc
       rw[gr (by exact hfd)] at hF2x
       simp only[Fld.name] at hF2x
       rw[hF2x,bF] at happ
       have h83:=eP Td Tl (bc p x1) 6 (by have:=hinv2.1;omega)
       rw[← happ] at h83
       simp only[bi] at h83
       simp only[tfR,Option.getD_none,Option.isSome_none,fV,TFd.pv_mk,Typ.pv_mk,List.map_nil] at hc
       simp(disch:=first|exact dI|fail) only[hx,Fld.pv_mk,Val.pv_mk,push_cast,seval]
       refine ae.pure hc rfl ?_
       simp(disch:=first|exact dI|fail) only[push_cast,seval]
       refine ae.pure hu rfl ?_
       simp(disch:=first|exact dI|fail) only[push_cast,seval]
       refine ae.lentK h83 [0,1] rfl (by simp(disch:=first|exact dI|fail) only[push_cast,seval]) (by simp(disch:=first|exact dI|fail) only[push_cast,seval]) ?_
       simp(disch:=first|exact dI|fail) only[push_cast,seval]
       exact⟨i+1,bl (by simp(disch:=first|exact dI|fail) only[push_cast,seval]),by omega,by omega⟩
    ·have hltI:¬ (i:Int)<vf.length:=by omega
     rw[cl hlt]
     rw[← hR]
     simp(disch:=first|exact dI|fail) only[push_cast,seval]
     exact aJ [] (by simp(disch:=first|exact dI|fail) only[push_cast,seval])
theorem kP (n:Nat)(ih:cG n)(t:Typ)(v:Val)(p:List UInt8)(l:List Mis)(R:Bool×List Mis)(hd:dep (n+1) v)(ht:aQ (n+1) t)(hv:v.ok)(hp:p.length+200*(n+1)≤100000)(hi:iD false l)(hR:R=bS false l (aF (n+1) t v p))(hk:t.kind=8)(hvk:v.kind=8)(hf:ab v=true) :
  bu Tryz.prog aA 2 54 [.ptr 0 0,.pv t.pv,.pv v.pv,.pv (.str p)] (bi false l) (.pv (.tup [])) (bi R.1 R.2):=by
 have hd0:=hd
 simp only[dep] at hd0
 have h84:=a6 v (by omega) (by omega) (by omega)
 have h85:=fun k=>gq false l t p k (by have:=hi.1;omega) _ rfl
 rw[aw,fe (by omega) hf hk,dN] at hR
 have hinv:=dH (jF t.min t.max p v.lst.length) hi
 have h85:=h85 v.lst.length
 rw[hf] at h84
 obtain⟨k,m,M,s,w,e,fs⟩:=t
 obtain⟨vk,vi,vs,vt,vl,vf⟩:=v
 simp only[dep,aQ,Val.lst,Val.fields,Val.text,Typ.fields,Typ.words,Typ.elem,Typ.kind,Val.kind,Typ.min,Typ.max,Typ.scale,Val.num,Val.scale] at hd ht hR hk hvk h85 h84 hinv
 subst hk hvk
 obtain⟨d1,d2,d3,d4,d5⟩:=hd
 obtain⟨t1,t2,t3,t4⟩:=ht
 rw[Val.ok_mk] at hv
 generalize bS false l (jF m M p vl.length)=T at *
 obtain⟨Td,Tl⟩:=T
 simp only at hR hinv
 generalize hF:eJ (aF n) e p=F at hR
 refine bu.intro bH (by simp[F54]) ?_
 rw[Typ.pv_mk,Val.pv_mk] at *
 simp only[bi] at h85
 simp(disch:=first|exact dI|fail) only[F54,bi,push_cast,seval]
 refine ae.pure h84 rfl ?_
 simp(disch:=first|exact dI|fail) only[push_cast,seval]
 refine ae.lentK h85 [0,1] rfl (by simp(disch:=first|exact dI|fail) only[push_cast,seval]) (by simp(disch:=first|exact dI|fail) only[push_cast,seval]) ?_
 simp(disch:=first|exact dI|fail) only[push_cast,seval]
 refine az ([]) (fun i:Nat=>[(112,.pv (.int .i64 (i:Int)))]) (fun i=>[(0,.cells 112 true [.clo 53 [] [.ptr 1 0],.pv (.bool (bS Td Tl (ixM F (vl.take i))).1)]),(1,.cells 4 true [.pv (.bool (!(bS Td Tl (ixM F (vl.take i))).1))])]) (fun i=>i≤vl.length) (fun i=>vl.length - i) (0) ?_;intro e0 σ0 n0 h0;simp(disch:=first|exact dI|fail) only[push_cast,seval] at h0;obtain⟨rfl,rfl,rfl⟩:=h0;refine⟨?_,?_,?_⟩
 ·simp(disch:=first|exact dI|fail) only[bS,jk,push_cast,seval]
 ·omega
 ·intro i hi2
  by_cases hlt:i<vl.length
  ·have hltI:(i:Int)<vl.length:=by omega
   obtain⟨x,hx⟩:∃ x,vl[i]? = some x:=⟨_,List.getElem?_eq_getElem hlt⟩
   have hsn:=fT F hx
   have hinv2:=dH (ixM F (vl.take i)) hinv
   have happ:=dN (ixM F (vl.take i)) (F x i) Td Tl
   rw[← hsn] at happ
   generalize bS Td Tl (ixM F (vl.take i))=S at *
   obtain⟨Sd,Sl⟩:=S
   simp only at hinv2 happ
   have hFx:F x i=eJ (aF n) e p x i:=by rw[hF]
   have hal:=jy p i
   have h87:=uF i (by omega) (by omega)
   have hil:=cD i
   have hat:atT p i=p++(91::(eh i++[93])):=rfl
   have hxd:=d4 x (List.mem_of_getElem? hx)
   have hxo:=hv.2.2.2.2.2.1 x (List.mem_of_getElem? hx)
   by_cases he:e.length=1
   ·obtain⟨y,rfl⟩:=List.length_eq_one_iff.1 he
    have hyt:=t3 y (List.mem_singleton.2 rfl)
    rw[dt rfl] at hFx
    have hih:=ih y x (atT p i) Sd Sl _ hxd hyt hxo (by omega) hinv2 rfl
    rw[← hFx,← happ] at hih
    obtain⟨y1,y2,y3,y4,y5,y6,y7⟩:=y
    obtain⟨x1,x2,x3,x4,x5,x6⟩:=x
    simp only[bi,Typ.pv_mk,Val.pv_mk,hat] at hih
    simp(disch:=first|exact dI|fail) only[hx,Val.pv_mk,Typ.pv_mk,push_cast,seval]
    refine ae.pure h87 rfl ?_
    simp(disch:=first|exact dI|fail) only[Typ.pv_mk,Val.pv_mk,aK,List.getElem?_cons_zero,push_cast,seval]
    refine ae.lentK hih [0,1] rfl (by simp(disch:=first|exact dI|fail) only[push_cast,seval]) (by simp(disch:=first|exact dI|fail) only[push_cast,seval]) ?_
    simp(disch:=first|exact dI|fail) only[push_cast,seval]
    exact⟨i+1,bl (by simp(disch:=first|exact dI|fail) only[push_cast,seval]),by omega,by omega⟩
   ·have heI:¬ (e.length:Int)=1:=by omega
    rw[du he] at hFx
    rw[hFx,bF] at happ
    have h83:=eP Sd Sl (atT p i) 1 (by have:=hinv2.1;omega)
    rw[← happ] at h83
    obtain⟨x1,x2,x3,x4,x5,x6⟩:=x
    simp only[bi,hat] at h83
    simp(disch:=first|exact dI|fail) only[hx,Val.pv_mk,Typ.pv_mk,push_cast,seval]
    refine ae.pure h87 rfl ?_
    simp(disch:=first|exact dI|fail) only[push_cast,seval]
    refine ae.lentK h83 [0,1] rfl (by simp(disch:=first|exact dI|fail) only[push_cast,seval]) (by simp(disch:=first|exact dI|fail) only[push_cast,seval]) ?_
    simp(disch:=first|exact dI|fail) only[push_cast,seval]
    exact⟨i+1,bl (by simp(disch:=first|exact dI|fail) only[push_cast,seval]),by omega,by omega⟩
  ·have hltI:¬ (i:Int)<vl.length:=by omega
   rw[cl hlt]
   rw[← hR]
   simp(disch:=first|exact dI|fail) only[push_cast,seval]
   exact aJ [] (by simp(disch:=first|exact dI|fail) only[push_cast,seval])
theorem kQ (n:Nat)(ih:cG n)(t:Typ)(v:Val)(p:List UInt8)(l:List Mis)(R:Bool×List Mis)(hd:dep (n+1) v)(ht:aQ (n+1) t)(hv:v.ok)(hp:p.length+200*(n+1)≤100000)(hi:iD false l)(hR:R=bS false l (aF (n+1) t v p))(h:t.kind<1∨10<t.kind∨¬ v.kind=t.kind) :
  bu Tryz.prog aA 2 54 [.ptr 0 0,.pv t.pv,.pv v.pv,.pv (.str p)] (bi false l) (.pv (.tup [])) (bi R.1 R.2):=by
 have hd0:=hd
 simp only[dep] at hd0
 have h83:=fun c=>eP false l p c (by have:=hi.1;omega)
 have hvo:=hv
 have h83:=h83 1
 rw[aw,ff h,bF] at hR
 obtain⟨k,m,M,s,w,e,fs⟩:=t
 obtain⟨vk,vi,vs,vt,vl,vf⟩:=v
 simp only[dep,aQ,Val.lst,Val.fields,Val.text,Typ.fields,Typ.words,Typ.elem,Typ.kind,Val.kind,Typ.min,Typ.max,Typ.scale,Val.num,Val.scale] at *
 obtain⟨d1,d2,d3,d4,d5⟩:=hd
 obtain⟨t1,t2,t3,t4⟩:=ht
 refine bu.intro bH (by simp[F54]) ?_
 rw[Typ.pv_mk,Val.pv_mk] at *
 simp only[bi] at *
 rw[← hR] at h83
 by_cases a:k<1
 ·simp(disch:=first|exact dI|fail) only[F54,a,push_cast,seval]
  refine ae.lentK h83 [0,1] rfl (by simp(disch:=first|exact dI|fail) only[push_cast,seval]) (by simp(disch:=first|exact dI|fail) only[push_cast,seval]) ?_
  simp(disch:=first|exact dI|fail) only[push_cast,seval]
  exact aJ [] (by simp(disch:=first|exact dI|fail) only[push_cast,seval])
 ·by_cases b:10<k
  ·simp(disch:=first|exact dI|fail) only[F54,a,b,push_cast,seval]
   refine ae.lentK h83 [0,1] rfl (by simp(disch:=first|exact dI|fail) only[push_cast,seval]) (by simp(disch:=first|exact dI|fail) only[push_cast,seval]) ?_
   simp(disch:=first|exact dI|fail) only[push_cast,seval]
   exact aJ [] (by simp(disch:=first|exact dI|fail) only[push_cast,seval])
  ·have c:¬ vk=k:=by omega
   simp(disch:=first|exact dI|fail) only[F54,a,b,c,push_cast,seval]
   refine ae.lentK h83 [0,1] rfl (by simp(disch:=first|exact dI|fail) only[push_cast,seval]) (by simp(disch:=first|exact dI|fail) only[push_cast,seval]) ?_
   simp(disch:=first|exact dI|fail) only[push_cast,seval]
   exact aJ [] (by simp(disch:=first|exact dI|fail) only[push_cast,seval])
theorem mU (n:Nat)(ih:cG n)(t:Typ)(v:Val)(p:List UInt8)(l:List Mis)(R:Bool×List Mis)(hd:dep (n+1) v)(ht:aQ (n+1) t)(hv:v.ok)(hp:p.length+200*(n+1)≤100000)(hi:iD false l)(hR:R=bS false l (aF (n+1) t v p))(h:¬ (t.kind<1∨10<t.kind∨¬ v.kind=t.kind))(hf:ab v=false) :
  bu Tryz.prog aA 2 54 [.ptr 0 0,.pv t.pv,.pv v.pv,.pv (.str p)] (bi false l) (.pv (.tup [])) (bi R.1 R.2):=by
 have hd0:=hd
 simp only[dep] at hd0
 have h84:=a6 v (by omega) (by omega) (by omega)
 have h83:=fun c=>eP false l p c (by have:=hi.1;omega)
 have hvo:=hv
 have h83:=h83 8
 rw[aw,gB h hf,bF] at hR
 obtain⟨k,m,M,s,w,e,fs⟩:=t
 obtain⟨vk,vi,vs,vt,vl,vf⟩:=v
 simp only[dep,aQ,Val.lst,Val.fields,Val.text,Typ.fields,Typ.words,Typ.elem,Typ.kind,Val.kind,Typ.min,Typ.max,Typ.scale,Val.num,Val.scale] at *
 obtain⟨d1,d2,d3,d4,d5⟩:=hd
 obtain⟨t1,t2,t3,t4⟩:=ht
 refine bu.intro bH (by simp[F54]) ?_
 rw[Typ.pv_mk,Val.pv_mk] at *
 simp only[bi] at *
 have a:¬ k<1:=by omega
 have b:¬ 10<k:=by omega
 have c:vk=k:=by omega
 subst c
 rw[← hR] at h83
 rw[hf] at h84
 simp(disch:=first|exact dI|fail) only[F54,a,b,push_cast,seval]
 refine ae.pure h84 rfl ?_
 simp(disch:=first|exact dI|fail) only[push_cast,seval]
 refine ae.lentK h83 [0,1] rfl (by simp(disch:=first|exact dI|fail) only[push_cast,seval]) (by simp(disch:=first|exact dI|fail) only[push_cast,seval]) ?_
 simp(disch:=first|exact dI|fail) only[push_cast,seval]
 exact aJ [] (by simp(disch:=first|exact dI|fail) only[push_cast,seval])
theorem u4 (n:Nat)(ih:cG n)(t:Typ)(v:Val)(p:List UInt8)(l:List Mis)(R:Bool×List Mis)(hd:dep (n+1) v)(ht:aQ (n+1) t)(hv:v.ok)(hp:p.length+200*(n+1)≤100000)(hi:iD false l)(hR:R=bS false l (aF (n+1) t v p))(h:¬ (t.kind<1∨10<t.kind∨¬ v.kind=t.kind))(hf:ab v=true)(hk:t.kind=2) :
  bu Tryz.prog aA 2 54 [.ptr 0 0,.pv t.pv,.pv v.pv,.pv (.str p)] (bi false l) (.pv (.tup [])) (bi R.1 R.2):=by
 have hd0:=hd
 simp only[dep] at hd0
 have h84:=a6 v (by omega) (by omega) (by omega)
 have h85:=fun k=>gq false l t p k (by have:=hi.1;omega) _ rfl
 have hvo:=hv
 have h85:=h85 v.num
 rw[aw,bv h hf (by omega)] at hR
 obtain⟨k,m,M,s,w,e,fs⟩:=t
 obtain⟨vk,vi,vs,vt,vl,vf⟩:=v
 simp only[dep,aQ,Val.lst,Val.fields,Val.text,Typ.fields,Typ.words,Typ.elem,Typ.kind,Val.kind,Typ.min,Typ.max,Typ.scale,Val.num,Val.scale] at *
 obtain⟨d1,d2,d3,d4,d5⟩:=hd
 obtain⟨t1,t2,t3,t4⟩:=ht
 refine bu.intro bH (by simp[F54]) ?_
 rw[Typ.pv_mk,Val.pv_mk] at *
 simp only[bi] at *
 have c:vk=2:=by omega
 subst hk c
 rw[← hR] at h85
 rw[hf] at h84
 simp(disch:=first|exact dI|fail) only[F54,push_cast,seval]
 refine ae.pure h84 rfl ?_
 simp(disch:=first|exact dI|fail) only[push_cast,seval]
 refine ae.lentK h85 [0,1] rfl (by simp(disch:=first|exact dI|fail) only[push_cast,seval]) (by simp(disch:=first|exact dI|fail) only[push_cast,seval]) ?_
 simp(disch:=first|exact dI|fail) only[push_cast,seval]
 exact aJ [] (by simp(disch:=first|exact dI|fail) only[push_cast,seval])
theorem uZ (n:Nat)(ih:cG n)(t:Typ)(v:Val)(p:List UInt8)(l:List Mis)(R:Bool×List Mis)(hd:dep (n+1) v)(ht:aQ (n+1) t)(hv:v.ok)(hp:p.length+200*(n+1)≤100000)(hi:iD false l)(hR:R=bS false l (aF (n+1) t v p))(h:¬ (t.kind<1∨10<t.kind∨¬ v.kind=t.kind))(hf:ab v=true)(hk:t.kind=6) :
  bu Tryz.prog aA 2 54 [.ptr 0 0,.pv t.pv,.pv v.pv,.pv (.str p)] (bi false l) (.pv (.tup [])) (bi R.1 R.2):=by
 have hd0:=hd
 simp only[dep] at hd0
 have h84:=a6 v (by omega) (by omega) (by omega)
 have h85:=fun k=>gq false l t p k (by have:=hi.1;omega) _ rfl
 have hvo:=hv
 have h85:=h85 v.num
 rw[aw,bv h hf (by omega)] at hR
 obtain⟨k,m,M,s,w,e,fs⟩:=t
 obtain⟨vk,vi,vs,vt,vl,vf⟩:=v
 simp only[dep,aQ,Val.lst,Val.fields,Val.text,Typ.fields,Typ.words,Typ.elem,Typ.kind,Val.kind,Typ.min,Typ.max,Typ.scale,Val.num,Val.scale] at *
 obtain⟨d1,d2,d3,d4,d5⟩:=hd
 obtain⟨t1,t2,t3,t4⟩:=ht
 refine bu.intro bH (by simp[F54]) ?_
 rw[Typ.pv_mk,Val.pv_mk] at *
 simp only[bi] at *
 have c:vk=6:=by omega
 subst hk c
 rw[← hR] at h85
 rw[hf] at h84
 simp(disch:=first|exact dI|fail) only[F54,push_cast,seval]
 refine ae.pure h84 rfl ?_
 simp(disch:=first|exact dI|fail) only[push_cast,seval]
 refine ae.lentK h85 [0,1] rfl (by simp(disch:=first|exact dI|fail) only[push_cast,seval]) (by simp(disch:=first|exact dI|fail) only[push_cast,seval]) ?_
 simp(disch:=first|exact dI|fail) only[push_cast,seval]
 exact aJ [] (by simp(disch:=first|exact dI|fail) only[push_cast,seval])
theorem uY (n:Nat)(ih:cG n)(t:Typ)(v:Val)(p:List UInt8)(l:List Mis)(R:Bool×List Mis)(hd:dep (n+1) v)(ht:aQ (n+1) t)(hv:v.ok)(hp:p.length+200*(n+1)≤100000)(hi:iD false l)(hR:R=bS false l (aF (n+1) t v p))(h:¬ (t.kind<1∨10<t.kind∨¬ v.kind=t.kind))(hf:ab v=true)(hk:t.kind=7) :
  bu Tryz.prog aA 2 54 [.ptr 0 0,.pv t.pv,.pv v.pv,.pv (.str p)] (bi false l) (.pv (.tup [])) (bi R.1 R.2):=by
 have hd0:=hd
 simp only[dep] at hd0
 have h84:=a6 v (by omega) (by omega) (by omega)
 have h85:=fun k=>gq false l t p k (by have:=hi.1;omega) _ rfl
 have hvo:=hv
 have h85:=h85 v.num
 rw[aw,bv h hf (by omega)] at hR
 obtain⟨k,m,M,s,w,e,fs⟩:=t
 obtain⟨vk,vi,vs,vt,vl,vf⟩:=v
 simp only[dep,aQ,Val.lst,Val.fields,Val.text,Typ.fields,Typ.words,Typ.elem,Typ.kind,Val.kind,Typ.min,Typ.max,Typ.scale,Val.num,Val.scale] at *
 obtain⟨d1,d2,d3,d4,d5⟩:=hd
 obtain⟨t1,t2,t3,t4⟩:=ht
 refine bu.intro bH (by simp[F54]) ?_
 rw[Typ.pv_mk,Val.pv_mk] at *
 simp only[bi] at *
 have c:vk=7:=by omega
 subst hk c
 rw[← hR] at h85
 rw[hf] at h84
 simp(disch:=first|exact dI|fail) only[F54,push_cast,seval]
 refine ae.pure h84 rfl ?_
 simp(disch:=first|exact dI|fail) only[push_cast,seval]
 refine ae.lentK h85 [0,1] rfl (by simp(disch:=first|exact dI|fail) only[push_cast,seval]) (by simp(disch:=first|exact dI|fail) only[push_cast,seval]) ?_
 simp(disch:=first|exact dI|fail) only[push_cast,seval]
 exact aJ [] (by simp(disch:=first|exact dI|fail) only[push_cast,seval])
theorem u5 (n:Nat)(ih:cG n)(t:Typ)(v:Val)(p:List UInt8)(l:List Mis)(R:Bool×List Mis)(hd:dep (n+1) v)(ht:aQ (n+1) t)(hv:v.ok)(hp:p.length+200*(n+1)≤100000)(hi:iD false l)(hR:R=bS false l (aF (n+1) t v p))(h:¬ (t.kind<1∨10<t.kind∨¬ v.kind=t.kind))(hf:ab v=true)(hk:t.kind=1) :
  bu Tryz.prog aA 2 54 [.ptr 0 0,.pv t.pv,.pv v.pv,.pv (.str p)] (bi false l) (.pv (.tup [])) (bi R.1 R.2):=by
 have hd0:=hd
 simp only[dep] at hd0
 have h84:=a6 v (by omega) (by omega) (by omega)
 have hvo:=hv
 rw[aw,fc h hf hk,eO] at hR
 obtain⟨k,m,M,s,w,e,fs⟩:=t
 obtain⟨vk,vi,vs,vt,vl,vf⟩:=v
 simp only[dep,aQ,Val.lst,Val.fields,Val.text,Typ.fields,Typ.words,Typ.elem,Typ.kind,Val.kind,Typ.min,Typ.max,Typ.scale,Val.num,Val.scale] at *
 obtain⟨d1,d2,d3,d4,d5⟩:=hd
 obtain⟨t1,t2,t3,t4⟩:=ht
 refine bu.intro bH (by simp[F54]) ?_
 rw[Typ.pv_mk,Val.pv_mk] at *
 simp only[bi] at *
 have c:vk=1:=by omega
 subst hk c hR
 rw[hf] at h84
 simp(disch:=first|exact dI|fail) only[F54,push_cast,seval]
 refine ae.pure h84 rfl ?_
 simp(disch:=first|exact dI|fail) only[push_cast,seval]
 exact aJ [] (by simp(disch:=first|exact dI|fail) only[push_cast,seval])
theorem qp (n:Nat)(ih:cG n)(t:Typ)(v:Val)(p:List UInt8)(l:List Mis)(R:Bool×List Mis)(hd:dep (n+1) v)(ht:aQ (n+1) t)(hv:v.ok)(hp:p.length+200*(n+1)≤100000)(hi:iD false l)(hR:R=bS false l (aF (n+1) t v p))(h:¬ (t.kind<1∨10<t.kind∨¬ v.kind=t.kind))(hf:ab v=true)(hk:t.kind=3)(hs:v.scale=t.scale) :
  bu Tryz.prog aA 2 54 [.ptr 0 0,.pv t.pv,.pv v.pv,.pv (.str p)] (bi false l) (.pv (.tup [])) (bi R.1 R.2):=by
 have hd0:=hd
 simp only[dep] at hd0
 have h84:=a6 v (by omega) (by omega) (by omega)
 have h85:=fun k=>gq false l t p k (by have:=hi.1;omega) _ rfl
 have hvo:=hv
 have h85:=h85 v.num
 rw[aw,gA h hf hk hs] at hR
 obtain⟨k,m,M,s,w,e,fs⟩:=t
 obtain⟨vk,vi,vs,vt,vl,vf⟩:=v
 simp only[dep,aQ,Val.lst,Val.fields,Val.text,Typ.fields,Typ.words,Typ.elem,Typ.kind,Val.kind,Typ.min,Typ.max,Typ.scale,Val.num,Val.scale] at *
 obtain⟨d1,d2,d3,d4,d5⟩:=hd
 obtain⟨t1,t2,t3,t4⟩:=ht
 refine bu.intro bH (by simp[F54]) ?_
 rw[Typ.pv_mk,Val.pv_mk] at *
 simp only[bi] at *
 have c:vk=3:=by omega
 subst hk c
 rw[← hR] at h85
 rw[hf] at h84
 simp(disch:=first|exact dI|fail) only[F54,push_cast,seval]
 refine ae.pure h84 rfl ?_
 simp(disch:=first|exact dI|fail) only[hs,push_cast,seval]
 refine ae.lentK h85 [0,1] rfl (by simp(disch:=first|exact dI|fail) only[push_cast,seval]) (by simp(disch:=first|exact dI|fail) only[push_cast,seval]) ?_
 simp(disch:=first|exact dI|fail) only[push_cast,seval]
 exact aJ [] (by simp(disch:=first|exact dI|fail) only[push_cast,seval])
theorem u3 (n:Nat)(ih:cG n)(t:Typ)(v:Val)(p:List UInt8)(l:List Mis)(R:Bool×List Mis)(hd:dep (n+1) v)(ht:aQ (n+1) t)(hv:v.ok)(hp:p.length+200*(n+1)≤100000)(hi:iD false l)(hR:R=bS false l (aF (n+1) t v p))(h:¬ (t.kind<1∨10<t.kind∨¬ v.kind=t.kind))(hf:ab v=true)(hk:t.kind=3)(hs:¬ v.scale=t.scale) :
  bu Tryz.prog aA 2 54 [.ptr 0 0,.pv t.pv,.pv v.pv,.pv (.str p)] (bi false l) (.pv (.tup [])) (bi R.1 R.2):=by
 have hd0:=hd
 simp only[dep] at hd0
 have h84:=a6 v (by omega) (by omega) (by omega)
 have h83:=fun c=>eP false l p c (by have:=hi.1;omega)
 have hvo:=hv
 have h83:=h83 3
 rw[aw,ef h hf hk hs,bF] at hR
 obtain⟨k,m,M,s,w,e,fs⟩:=t
 obtain⟨vk,vi,vs,vt,vl,vf⟩:=v
 simp only[dep,aQ,Val.lst,Val.fields,Val.text,Typ.fields,Typ.words,Typ.elem,Typ.kind,Val.kind,Typ.min,Typ.max,Typ.scale,Val.num,Val.scale] at *
 obtain⟨d1,d2,d3,d4,d5⟩:=hd
 obtain⟨t1,t2,t3,t4⟩:=ht
 refine bu.intro bH (by simp[F54]) ?_
 rw[Typ.pv_mk,Val.pv_mk] at *
 simp only[bi] at *
 have c:vk=3:=by omega
 subst hk c
 rw[← hR] at h83
 rw[hf] at h84
 simp(disch:=first|exact dI|fail) only[F54,push_cast,seval]
 refine ae.pure h84 rfl ?_
 simp(disch:=first|exact dI|fail) only[hs,push_cast,seval]
 refine ae.lentK h83 [0,1] rfl (by simp(disch:=first|exact dI|fail) only[push_cast,seval]) (by simp(disch:=first|exact dI|fail) only[push_cast,seval]) ?_
 simp(disch:=first|exact dI|fail) only[push_cast,seval]
 exact aJ [] (by simp(disch:=first|exact dI|fail) only[push_cast,seval])
theorem u1 (n:Nat)(ih:cG n)(t:Typ)(v:Val)(p:List UInt8)(l:List Mis)(R:Bool×List Mis)(hd:dep (n+1) v)(ht:aQ (n+1) t)(hv:v.ok)(hp:p.length+200*(n+1)≤100000)(hi:iD false l)(hR:R=bS false l (aF (n+1) t v p))(h:¬ (t.kind<1∨10<t.kind∨¬ v.kind=t.kind))(hf:ab v=true)(hk:t.kind=5) :
  bu Tryz.prog aA 2 54 [.ptr 0 0,.pv t.pv,.pv v.pv,.pv (.str p)] (bi false l) (.pv (.tup [])) (bi R.1 R.2):=by
 have hd0:=hd
 simp only[dep] at hd0
 have h84:=a6 v (by omega) (by omega) (by omega)
 have h85:=fun k=>gq false l t p k (by have:=hi.1;omega) _ rfl
 have hvo:=hv
 have h85:=h85 v.text.length
 rw[aw,bT h hf (.inr hk) (by omega)] at hR
 obtain⟨k,m,M,s,w,e,fs⟩:=t
 obtain⟨vk,vi,vs,vt,vl,vf⟩:=v
 simp only[dep,aQ,Val.lst,Val.fields,Val.text,Typ.fields,Typ.words,Typ.elem,Typ.kind,Val.kind,Typ.min,Typ.max,Typ.scale,Val.num,Val.scale] at *
 obtain⟨d1,d2,d3,d4,d5⟩:=hd
 obtain⟨t1,t2,t3,t4⟩:=ht
 refine bu.intro bH (by simp[F54]) ?_
 rw[Typ.pv_mk,Val.pv_mk] at *
 simp only[bi] at *
 have c:vk=5:=by omega
 subst hk c
 rw[← hR] at h85
 rw[hf] at h84
 simp(disch:=first|exact dI|fail) only[F54,push_cast,seval]
 refine ae.pure h84 rfl ?_
 simp(disch:=first|exact dI|fail) only[push_cast,seval]
 refine ae.lentK h85 [0,1] rfl (by simp(disch:=first|exact dI|fail) only[push_cast,seval]) (by simp(disch:=first|exact dI|fail) only[push_cast,seval]) ?_
 simp(disch:=first|exact dI|fail) only[push_cast,seval]
 exact aJ [] (by simp(disch:=first|exact dI|fail) only[push_cast,seval])
theorem u2 (n:Nat)(ih:cG n)(t:Typ)(v:Val)(p:List UInt8)(l:List Mis)(R:Bool×List Mis)(hd:dep (n+1) v)(ht:aQ (n+1) t)(hv:v.ok)(hp:p.length+200*(n+1)≤100000)(hi:iD false l)(hR:R=bS false l (aF (n+1) t v p))(h:¬ (t.kind<1∨10<t.kind∨¬ v.kind=t.kind))(hf:ab v=true)(hk:t.kind=4)(hw:t.words.length=0) :
  bu Tryz.prog aA 2 54 [.ptr 0 0,.pv t.pv,.pv v.pv,.pv (.str p)] (bi false l) (.pv (.tup [])) (bi R.1 R.2):=by
 have hd0:=hd
 simp only[dep] at hd0
 have h84:=a6 v (by omega) (by omega) (by omega)
 have h85:=fun k=>gq false l t p k (by have:=hi.1;omega) _ rfl
 have hvo:=hv
 have h85:=h85 v.text.length
 rw[aw,bT h hf (.inl hk) (fun _=>hw)] at hR
 obtain⟨k,m,M,s,w,e,fs⟩:=t
 obtain⟨vk,vi,vs,vt,vl,vf⟩:=v
 simp only[dep,aQ,Val.lst,Val.fields,Val.text,Typ.fields,Typ.words,Typ.elem,Typ.kind,Val.kind,Typ.min,Typ.max,Typ.scale,Val.num,Val.scale] at *
 obtain⟨d1,d2,d3,d4,d5⟩:=hd
 obtain⟨t1,t2,t3,t4⟩:=ht
 refine bu.intro bH (by simp[F54]) ?_
 rw[Typ.pv_mk,Val.pv_mk] at *
 simp only[bi] at *
 have c:vk=4:=by omega
 subst hk c
 rw[← hR] at h85
 rw[hf] at h84
 have hz:¬ (0:Int)<w.length:=by omega
 simp(disch:=first|exact dI|fail) only[F54,push_cast,seval]
 refine ae.pure h84 rfl ?_
 simp(disch:=first|exact dI|fail) only[push_cast,seval]
 refine ae.lentK h85 [0,1] rfl (by simp(disch:=first|exact dI|fail) only[push_cast,seval]) (by simp(disch:=first|exact dI|fail) only[push_cast,seval]) ?_
 simp(disch:=first|exact dI|fail) only[push_cast,seval]
 exact aJ [] (by simp(disch:=first|exact dI|fail) only[push_cast,seval])
theorem qn (n:Nat)(ih:cG n)(t:Typ)(v:Val)(p:List UInt8)(l:List Mis)(R:Bool×List Mis)(hd:dep (n+1) v)(ht:aQ (n+1) t)(hv:v.ok)(hp:p.length+200*(n+1)≤100000)(hi:iD false l)(hR:R=bS false l (aF (n+1) t v p))(h:¬ (t.kind<1∨10<t.kind∨¬ v.kind=t.kind))(hf:ab v=true)(hk:t.kind=4)(hw:0<t.words.length)(ha:(t.words.any fun x=>decide (x=v.text))=true) :
  bu Tryz.prog aA 2 54 [.ptr 0 0,.pv t.pv,.pv v.pv,.pv (.str p)] (bi false l) (.pv (.tup [])) (bi R.1 R.2):=by
 have hd0:=hd
 simp only[dep] at hd0
 have h84:=a6 v (by omega) (by omega) (by omega)
 have h86:=iL t.words v.text (by have:=ht;simp only[aQ] at this;omega)
 have hvo:=hv
 rw[aw,fb h hf hk hw ha,eO] at hR
 obtain⟨k,m,M,s,w,e,fs⟩:=t
 obtain⟨vk,vi,vs,vt,vl,vf⟩:=v
 simp only[dep,aQ,Val.lst,Val.fields,Val.text,Typ.fields,Typ.words,Typ.elem,Typ.kind,Val.kind,Typ.min,Typ.max,Typ.scale,Val.num,Val.scale] at *
 obtain⟨d1,d2,d3,d4,d5⟩:=hd
 obtain⟨t1,t2,t3,t4⟩:=ht
 refine bu.intro bH (by simp[F54]) ?_
 rw[Typ.pv_mk,Val.pv_mk] at *
 simp only[bi] at *
 have c:vk=4:=by omega
 subst hk c hR
 rw[hf] at h84
 rw[ha] at h86
 have hz:(0:Int)<w.length:=by omega
 simp(disch:=first|exact dI|fail) only[F54,push_cast,seval]
 refine ae.pure h84 rfl ?_
 simp(disch:=first|exact dI|fail) only[push_cast,seval]
 refine ae.pure h86 rfl ?_
 simp(disch:=first|exact dI|fail) only[push_cast,seval]
 exact aJ [] (by simp(disch:=first|exact dI|fail) only[push_cast,seval])
theorem qo (n:Nat)(ih:cG n)(t:Typ)(v:Val)(p:List UInt8)(l:List Mis)(R:Bool×List Mis)(hd:dep (n+1) v)(ht:aQ (n+1) t)(hv:v.ok)(hp:p.length+200*(n+1)≤100000)(hi:iD false l)(hR:R=bS false l (aF (n+1) t v p))(h:¬ (t.kind<1∨10<t.kind∨¬ v.kind=t.kind))(hf:ab v=true)(hk:t.kind=4)(hw:0<t.words.length)(ha:(t.words.any fun x=>decide (x=v.text))=false) :
  bu Tryz.prog aA 2 54 [.ptr 0 0,.pv t.pv,.pv v.pv,.pv (.str p)] (bi false l) (.pv (.tup [])) (bi R.1 R.2):=by
 have hd0:=hd
 simp only[dep] at hd0
 have h84:=a6 v (by omega) (by omega) (by omega)
 have h83:=fun c=>eP false l p c (by have:=hi.1;omega)
 have h86:=iL t.words v.text (by have:=ht;simp only[aQ] at this;omega)
 have hvo:=hv
 have h83:=h83 4
 rw[aw,dq h hf hk hw ha,bF] at hR
 obtain⟨k,m,M,s,w,e,fs⟩:=t
 obtain⟨vk,vi,vs,vt,vl,vf⟩:=v
 simp only[dep,aQ,Val.lst,Val.fields,Val.text,Typ.fields,Typ.words,Typ.elem,Typ.kind,Val.kind,Typ.min,Typ.max,Typ.scale,Val.num,Val.scale] at *
 obtain⟨d1,d2,d3,d4,d5⟩:=hd
 obtain⟨t1,t2,t3,t4⟩:=ht
 refine bu.intro bH (by simp[F54]) ?_
 rw[Typ.pv_mk,Val.pv_mk] at *
 simp only[bi] at *
 have c:vk=4:=by omega
 subst hk c
 rw[← hR] at h83
 rw[hf] at h84
 rw[ha] at h86
 have hz:(0:Int)<w.length:=by omega
 simp(disch:=first|exact dI|fail) only[F54,push_cast,seval]
 refine ae.pure h84 rfl ?_
 simp(disch:=first|exact dI|fail) only[push_cast,seval]
 refine ae.pure h86 rfl ?_
 simp(disch:=first|exact dI|fail) only[push_cast,seval]
 refine ae.lentK h83 [0,1] rfl (by simp(disch:=first|exact dI|fail) only[push_cast,seval]) (by simp(disch:=first|exact dI|fail) only[push_cast,seval]) ?_
 simp(disch:=first|exact dI|fail) only[push_cast,seval]
 exact aJ [] (by simp(disch:=first|exact dI|fail) only[push_cast,seval])
theorem uX (n:Nat)(ih:cG n)(t:Typ)(v:Val)(p:List UInt8)(l:List Mis)(R:Bool×List Mis)(hd:dep (n+1) v)(ht:aQ (n+1) t)(hv:v.ok)(hp:p.length+200*(n+1)≤100000)(hi:iD false l)(hR:R=bS false l (aF (n+1) t v p))(h:¬ (t.kind<1∨10<t.kind∨¬ v.kind=t.kind))(hf:ab v=true)(hk:t.kind=9) :
  bu Tryz.prog aA 2 54 [.ptr 0 0,.pv t.pv,.pv v.pv,.pv (.str p)] (bi false l) (.pv (.tup [])) (bi R.1 R.2):=by
 have hd0:=hd
 simp only[dep] at hd0
 have h84:=a6 v (by omega) (by omega) (by omega)
 have h88:=fun h9 hR=>sJ n ih t v p false l R hd ht hv h9 hp hi hR
 have hvo:=hv
 rw[aw,gz h hf hk] at hR
 have h88:=h88 (by omega) hR
 obtain⟨k,m,M,s,w,e,fs⟩:=t
 obtain⟨vk,vi,vs,vt,vl,vf⟩:=v
 simp only[dep,aQ,Val.lst,Val.fields,Val.text,Typ.fields,Typ.words,Typ.elem,Typ.kind,Val.kind,Typ.min,Typ.max,Typ.scale,Val.num,Val.scale] at *
 obtain⟨d1,d2,d3,d4,d5⟩:=hd
 obtain⟨t1,t2,t3,t4⟩:=ht
 refine bu.intro bH (by simp[F54]) ?_
 rw[Typ.pv_mk,Val.pv_mk] at *
 simp only[bi] at *
 have c:vk=9:=by omega
 subst hk c
 rw[hf] at h84
 simp(disch:=first|exact dI|fail) only[F54,push_cast,seval]
 refine ae.pure h84 rfl ?_
 simp(disch:=first|exact dI|fail) only[push_cast,seval]
 refine ae.lentK h88 [0,1] rfl (by simp(disch:=first|exact dI|fail) only[push_cast,seval]) (by simp(disch:=first|exact dI|fail) only[push_cast,seval]) ?_
 simp(disch:=first|exact dI|fail) only[push_cast,seval]
 exact aJ [] (by simp(disch:=first|exact dI|fail) only[push_cast,seval])
theorem mV (n:Nat)(ih:cG n)(t:Typ)(v:Val)(p:List UInt8)(l:List Mis)(R:Bool×List Mis)(hd:dep (n+1) v)(ht:aQ (n+1) t)(hv:v.ok)(hp:p.length+200*(n+1)≤100000)(hi:iD false l)(hR:R=bS false l (aF (n+1) t v p))(h:¬ (t.kind<1∨10<t.kind∨¬ v.kind=t.kind))(hf:ab v=true)(hk:t.kind=10)(hfd:t.fields.find? (named v.text)=none) :
  bu Tryz.prog aA 2 54 [.ptr 0 0,.pv t.pv,.pv v.pv,.pv (.str p)] (bi false l) (.pv (.tup [])) (bi R.1 R.2):=by
 have hd0:=hd
 simp only[dep] at hd0
 have h84:=a6 v (by omega) (by omega) (by omega)
 have h83:=fun c=>eP false l p c (by have:=hi.1;omega)
 have h89:=d7 t v.text (by have:=ht;simp only[aQ] at this;omega)
 have hvo:=hv
 have h83:=h83 7
 rw[aw,dp h hf hk,f6 hfd,bF] at hR
 obtain⟨k,m,M,s,w,e,fs⟩:=t
 obtain⟨vk,vi,vs,vt,vl,vf⟩:=v
 simp only[dep,aQ,Val.lst,Val.fields,Val.text,Typ.fields,Typ.words,Typ.elem,Typ.kind,Val.kind,Typ.min,Typ.max,Typ.scale,Val.num,Val.scale] at *
 obtain⟨d1,d2,d3,d4,d5⟩:=hd
 obtain⟨t1,t2,t3,t4⟩:=ht
 refine bu.intro bH (by simp[F54]) ?_
 rw[Typ.pv_mk,Val.pv_mk] at *
 simp only[bi] at *
 have c:vk=10:=by omega
 subst hk c
 rw[← hR] at h83
 rw[hf] at h84
 rw[hfd] at h89
 simp only[tfR,Option.getD_none,Option.isSome_none,fV,TFd.pv_mk,Typ.pv_mk,List.map_nil] at h89
 simp(disch:=first|exact dI|fail) only[F54,push_cast,seval]
 refine ae.pure h84 rfl ?_
 simp(disch:=first|exact dI|fail) only[push_cast,seval]
 refine ae.pure h89 rfl ?_
 simp(disch:=first|exact dI|fail) only[push_cast,seval]
 refine ae.lentK h83 [0,1] rfl (by simp(disch:=first|exact dI|fail) only[push_cast,seval]) (by simp(disch:=first|exact dI|fail) only[push_cast,seval]) ?_
 simp(disch:=first|exact dI|fail) only[push_cast,seval]
 exact aJ [] (by simp(disch:=first|exact dI|fail) only[push_cast,seval])
theorem qq (n:Nat)(ih:cG n)(t:Typ)(v:Val)(p:List UInt8)(l:List Mis)(R:Bool×List Mis)(hd:dep (n+1) v)(ht:aQ (n+1) t)(hv:v.ok)(hp:p.length+200*(n+1)≤100000)(hi:iD false l)(hR:R=bS false l (aF (n+1) t v p))(h:¬ (t.kind<1∨10<t.kind∨¬ v.kind=t.kind))(hf:ab v=true)(hk:t.kind=10)(hl:v.lst.length=1)(z:TFd)(hfd:t.fields.find? (named v.text)=some z) :
  bu Tryz.prog aA 2 54 [.ptr 0 0,.pv t.pv,.pv v.pv,.pv (.str p)] (bi false l) (.pv (.tup [])) (bi R.1 R.2):=by
 have hd0:=hd
 simp only[dep] at hd0
 have h84:=a6 v (by omega) (by omega) (by omega)
 have h89:=d7 t v.text (by have:=ht;simp only[aQ] at this;omega)
 have hvo:=hv
 rw[aw,dp h hf hk,f5 hfd] at hR
 obtain⟨k,m,M,s,w,e,fs⟩:=t
 obtain⟨vk,vi,vs,vt,vl,vf⟩:=v
 simp only[dep,aQ,Val.lst,Val.fields,Val.text,Typ.fields,Typ.words,Typ.elem,Typ.kind,Val.kind,Typ.min,Typ.max,Typ.scale,Val.num,Val.scale] at *
 obtain⟨d1,d2,d3,d4,d5⟩:=hd
 obtain⟨t1,t2,t3,t4⟩:=ht
 refine bu.intro bH (by simp[F54]) ?_
 rw[Typ.pv_mk,Val.pv_mk] at *
 simp only[bi] at *
 have c:vk=10:=by omega
 subst hk c
 rw[hf] at h84
 rw[hfd] at h89
 obtain⟨x,rfl⟩:=List.length_eq_one_iff.1 hl
 have hxd:=d4 x (List.mem_singleton.2 rfl)
 rw[Val.ok_mk] at hvo
 have hxo:=hvo.2.2.2.2.2.1 x (List.mem_singleton.2 rfl)
 have hzt:=(t4 z (List.mem_of_find?_eq_some hfd)).2
 obtain⟨z1,z2,z3,z4,z5⟩:=z
 simp only[TFd.typ,List.headD_cons] at hzt hR
 have hih:=ih z4 x (p++(63::vt)) false l _ hxd hzt hxo (by simp only[List.length_append,List.length_cons];omega) hi rfl
 rw[← hR] at hih
 obtain⟨w1,w2,w3,w4,w5,w6,w7⟩:=z4
 obtain⟨x1,x2,x3,x4,x5,x6⟩:=x
 simp only[tfR,Option.getD_some,Option.isSome_some,TFd.pv_mk,Typ.pv_mk] at h89
 simp only[bi,Typ.pv_mk,Val.pv_mk] at hih
 simp(disch:=first|exact dI|fail) only[F54,push_cast,seval]
 refine ae.pure h84 rfl ?_
 simp(disch:=first|exact dI|fail) only[push_cast,seval]
 refine ae.pure h89 rfl ?_
 simp(disch:=first|exact dI|fail) only[List.map_cons,List.map_nil,aK,List.getElem?_cons_zero,Val.pv_mk,push_cast,seval]
 refine ae.lentK hih [0,1] rfl (by simp(disch:=first|exact dI|fail) only[push_cast,seval]) (by simp(disch:=first|exact dI|fail) only[push_cast,seval]) ?_
 simp(disch:=first|exact dI|fail) only[push_cast,seval]
 exact aJ [] (by simp(disch:=first|exact dI|fail) only[push_cast,seval])
theorem kO (n:Nat)(ih:cG n):cG (n+1):=by
 intro t v p d l R hd ht hv hp hi hR
 cases d with
 | true=>
   rw[g7] at hR;subst hR
   obtain⟨k,m,M,s,w,e,fs⟩:=t
   obtain⟨vk,vi,vs,vt,vl,vf⟩:=v
   refine bu.intro bH (by simp[F54]) ?_
   simp(disch:=first|exact dI|fail) only[F54,bi,Typ.pv_mk,Val.pv_mk,push_cast,seval]
   exact aJ [] (by simp(disch:=first|exact dI|fail) only[push_cast,seval])
 | false=>
   by_cases h:t.kind<1∨10<t.kind∨¬ v.kind=t.kind
   ·exact kQ n ih t v p l R hd ht hv hp hi hR h
   ·by_cases hf:ab v=false
    ·exact mU n ih t v p l R hd ht hv hp hi hR h hf
    ·have hf:ab v=true:=by simpa using hf
     have hk:t.kind=1∨t.kind=2∨t.kind=3∨t.kind=4∨t.kind=5∨t.kind=6∨t.kind=7∨t.kind=8∨t.kind=9∨t.kind=10:=by omega
     rcases hk with hk | hk | hk | hk | hk | hk | hk | hk | hk | hk
     ·exact u5 n ih t v p l R hd ht hv hp hi hR h hf hk
     ·exact u4 n ih t v p l R hd ht hv hp hi hR h hf hk
     ·by_cases hs:v.scale=t.scale
      ·exact qp n ih t v p l R hd ht hv hp hi hR h hf hk hs
      ·exact u3 n ih t v p l R hd ht hv hp hi hR h hf hk hs
     ·by_cases hw:t.words.length=0
      ·exact u2 n ih t v p l R hd ht hv hp hi hR h hf hk hw
      ·cases ha:(t.words.any fun x=>decide (x=v.text)) with
       | true=>exact qn n ih t v p l R hd ht hv hp hi hR h hf hk (by omega) ha
       | false=>exact qo n ih t v p l R hd ht hv hp hi hR h hf hk (by omega) ha
     ·exact u1 n ih t v p l R hd ht hv hp hi hR h hf hk
     ·exact uZ n ih t v p l R hd ht hv hp hi hR h hf hk
     ·exact uY n ih t v p l R hd ht hv hp hi hR h hf hk
     ·exact kP n ih t v p l R hd ht hv hp hi hR hk (by omega) hf
     ·exact uX n ih t v p l R hd ht hv hp hi hR h hf hk
     ·cases hfd:t.fields.find? (named v.text) with
      | none=>exact mV n ih t v p l R hd ht hv hp hi hR h hf hk hfd
      | some z=>exact qq n ih t v p l R hd ht hv hp hi hR h hf hk (jm (by omega) hf) z hfd
theorem u6:∀ n,cG n
 | 0=>fun t v p d l R hd=>hd.elim
 | n+1=>kO n (u6 n)
theorem Ec (a l:List Mis):(bS false l a).1=!a.isEmpty:=by
 cases a with
 | nil=>rfl
 | cons m r=>rw[bS,eS,g7];rfl
theorem Bv (n:Nat)(t:Typ)(v:Val)(hd:dep n v)(ht:aQ n t)(hv:v.ok)(hn:n≤400):aq Tryz.prog aA 21 [t.pv,v.pv] (.bool (aF n t v []).isEmpty):=by
 have h56:=u6 n t v [] false [] _ hd ht hv (by simp;omega) ⟨by simp,by simp⟩ rfl
 have e:=Ec (aF n t v []) []
 generalize bS false [] (aF n t v [])=S at *
 obtain⟨Sd,Sl⟩:=S
 simp only at e
 have e2:(aF n t v []).isEmpty=!Sd:=by rw[e,Bool.not_not]
 rw[e2]
 obtain⟨k,m,M,s,w,e,fs⟩:=t
 obtain⟨vk,vi,vs,vt,vl,vf⟩:=v
 simp only[bi,Typ.pv_mk,Val.pv_mk,List.map_nil] at h56
 refine aq.intro HF (by simp[F21]) ?_
 simp(disch:=first|exact dI|fail) only[F21,Typ.pv_mk,Val.pv_mk,push_cast,seval]
 refine ae.lentK h56 [4,2] rfl (by simp(disch:=first|exact dI|fail) only[push_cast,seval]) (by simp(disch:=first|exact dI|fail) only[push_cast,seval]) ?_
 simp(disch:=first|exact dI|fail) only[push_cast,seval]
end Go.Proofs.YtedanlflegfomaaGreatDoor
