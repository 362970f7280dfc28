/- A part of the proof for DelimitedRepresentableCardSaid. -/
import Derived.Test.YtbaaokocnegdoaaGreatDoorRepVC21
set_option maxRecDepth 100000
set_option linter.unusedVariables false
set_option linter.unusedSimpArgs false
namespace Go.Proofs.YtbaaokocnegdoaaGreatDoor
open Go Go.Ab
attribute [local irreducible] vc
def kV:Bool→List Mis→Mis→Bool×List Mis
 | true,l,_=>(true,l)
 | false,l,m=>(true,l++[m])
def jR:Bool→List Mis→List Mis→Bool×List Mis
 | d,l,[]=>(d,l)
 | d,l,m::r=>jR (kV d l m).1 (kV d l m).2 r
def cP (d:Bool)(l:List Mis):List Blk:=[.cells 133 true [.clo 79 [] [.ptr 1 0],.pv (.bool d)],.cells 4 true [.pv (.bool (!d))]]
theorem P9 (d:Bool)(m:Mis):bM Tryz.prog aE 1 79 [.pv m.pv,.ptr 0 0] [.cells 4 true [.pv (.bool d)]] (.pv (.bool false)) [.cells 4 true [.pv (.bool false)]]:=by
 obtain⟨p,c⟩:=m
 refine bM.intro No (by simp[F79]) ?_
 simp(disch:=first|exact dI|fail) only[F79,Mis.pv_mk,push_cast,seval]
 exact aJ [] (by simp(disch:=first|exact dI|fail) only[push_cast,seval])
theorem nO (d:Bool)(l:List Mis)(p:List UInt8)(c:Int)(hl:l.length≤100000):bM Tryz.prog aE 2 129 [.ptr 0 0,.pv (.str p),.pv (.int .i64 c)] (cP d l) (.pv (.tup [])) (cP (kV d l (.mk p c)).1 (kV d l (.mk p c)).2):=by
 have h63:=P9 true (.mk p c)
 rw[Mis.pv_mk] at h63
 refine bM.intro KG (by simp[Od]) ?_
 cases d with
 | true=>
   rw[kV]
   simp(disch:=first|exact dI|fail) only[Od,cP,push_cast,seval]
   exact aJ [] (by simp(disch:=first|exact dI|fail) only[push_cast,seval])
 | false=>
   rw[kV]
   simp(disch:=first|exact dI|fail) only[Od,cP,push_cast,seval]
   refine ab.lentK h63 [1] rfl (by simp(disch:=first|exact dI|fail) only[push_cast,seval]) (by simp(disch:=first|exact dI|fail) only[push_cast,seval]) ?_
   simp(disch:=first|exact dI|fail) only[push_cast,seval]
   exact aJ [] (by simp(disch:=first|exact dI|fail) only[push_cast,seval])
theorem fe (d:Bool)(l:List Mis)(m:Mis):jR d l [m]=kV d l m:=rfl
theorem lD (d:Bool)(l:List Mis):jR d l []=(d,l):=rfl
theorem nN:∀ (a:List Mis) (l:List Mis),jR true l a=(true,l)
 | [],l=>rfl
 | m::r,l=>by rw[jR,kV];exact nN r l
theorem kh (d:Bool)(l:List Mis)(t:Typ)(p:List UInt8)(n:Int)(hl:l.length≤100000)(R:Bool×List Mis)(hR:R=jR d l (BN t.min t.max p n)) :
  bM Tryz.prog aE 2 131 [.ptr 0 0,.pv t.pv,.pv (.str p),.pv (.int .i64 n)] (cP d l) (.pv (.tup [])) (cP R.1 R.2):=by
 have h83:=nO d l p 2 hl
 obtain⟨k,m,M,s,w,e,f⟩:=t
 simp only[Typ.min,Typ.max] at hR
 refine bM.intro BF (by simp[K2]) ?_
 unfold cP at h83 ⊢
 by_cases h1:n<m
 ·rw[Gj (.inl h1),fe] at hR
  rw[← hR] at h83
  simp(disch:=first|exact dI|fail) only[K2,Typ.pv_mk,push_cast,seval]
  refine ab.lentK h83 [0,1] rfl (by simp(disch:=first|exact dI|fail) only[push_cast,seval]) (by simp(disch:=first|exact dI|fail) only[push_cast,seval]) ?_
  simp(disch:=first|exact dI|fail) only[push_cast,seval]
  exact aJ [] (by simp(disch:=first|exact dI|fail) only[push_cast,seval])
 ·by_cases h2:M<n
  ·rw[Gj (.inr h2),fe] at hR
   rw[← hR] at h83
   simp(disch:=first|exact dI|fail) only[K2,Typ.pv_mk,push_cast,seval]
   refine ab.lentK h83 [0,1] rfl (by simp(disch:=first|exact dI|fail) only[push_cast,seval]) (by simp(disch:=first|exact dI|fail) only[push_cast,seval]) ?_
   simp(disch:=first|exact dI|fail) only[push_cast,seval]
   exact aJ [] (by simp(disch:=first|exact dI|fail) only[push_cast,seval])
  ·rw[LQ (fun h=>h.elim h1 h2),lD] at hR
   subst hR
   simp(disch:=first|exact dI|fail) only[K2,Typ.pv_mk,push_cast,seval]
   exact aJ [] (by simp(disch:=first|exact dI|fail) only[push_cast,seval])
def q7:=P4
def gO (n:Nat):Prop:=∀ (t:Typ) (v:Val) (p:List UInt8) (d:Bool) (l:List Mis) (R:Bool×List Mis),dep n v→fh n t→v.ok→p.length+200*n≤100000→q7 d l→R=jR d l (cW n t v p) →
 bM Tryz.prog aE 2 80 [.ptr 0 0,.pv t.pv,.pv v.pv,.pv (.str p)] (cP d l) (.pv (.tup [])) (cP R.1 R.2)
theorem nk (n:Nat)(ih:gO n)(t:Typ)(v:Val)(p:List UInt8)(l:List Mis)(R:Bool×List Mis)(hd:dep (n+1) v)(ht:fh (n+1) t)(hv:v.ok)(hp:p.length+200*(n+1)≤100000)(hi:q7 false l)(hR:R=jR false l (cW (n+1) t v p))(h:t.kind<1∨10<t.kind∨¬ v.kind=t.kind) :
  bM Tryz.prog aE 2 80 [.ptr 0 0,.pv t.pv,.pv v.pv,.pv (.str p)] (cP false l) (.pv (.tup [])) (cP R.1 R.2):=by
 have hd0:=hd
 simp only[dep] at hd0
 have h83:=fun c=>nO false l p c (by have:=hi.1;omega)
 have hvo:=hv
 have h83:=h83 1
 rw[bd,tD h,fe] at hR
 obtain⟨k,m,M,s,w,e,fs⟩:=t
 obtain⟨vk,vi,vs,vt,vl,vf⟩:=v
 simp only[dep,fh,Val.lst,Val.fields,Val.text,Typ.fields,Typ.words,Typ.elem,Typ.kind,Val.kind,Typ.min,Typ.max,Typ.scale,Val.num,Val.scale] at *
 obtain⟨d1,d2,d3,d4,d5⟩:=hd
 obtain⟨t1,t2,t3,t4⟩:=ht
 refine bM.intro dP (by simp[F80]) ?_
 rw[Typ.pv_mk,Val.pv_mk] at *
 simp only[cP] at *
 rw[← hR] at h83
 by_cases a:k<1
 ·simp(disch:=first|exact dI|fail) only[F80,a,push_cast,seval]
  refine ab.lentK h83 [0,1] rfl (by simp(disch:=first|exact dI|fail) only[push_cast,seval]) (by simp(disch:=first|exact dI|fail) only[push_cast,seval]) ?_
  simp(disch:=first|exact dI|fail) only[push_cast,seval]
  exact aJ [] (by simp(disch:=first|exact dI|fail) only[push_cast,seval])
 ·by_cases b:10<k
  ·simp(disch:=first|exact dI|fail) only[F80,a,b,push_cast,seval]
   refine ab.lentK h83 [0,1] rfl (by simp(disch:=first|exact dI|fail) only[push_cast,seval]) (by simp(disch:=first|exact dI|fail) only[push_cast,seval]) ?_
   simp(disch:=first|exact dI|fail) only[push_cast,seval]
   exact aJ [] (by simp(disch:=first|exact dI|fail) only[push_cast,seval])
  ·have c:¬ vk=k:=by omega
   simp(disch:=first|exact dI|fail) only[F80,a,b,c,push_cast,seval]
   refine ab.lentK h83 [0,1] rfl (by simp(disch:=first|exact dI|fail) only[push_cast,seval]) (by simp(disch:=first|exact dI|fail) only[push_cast,seval]) ?_
   simp(disch:=first|exact dI|fail) only[push_cast,seval]
   exact aJ [] (by simp(disch:=first|exact dI|fail) only[push_cast,seval])
theorem pO (n:Nat)(ih:gO n)(t:Typ)(v:Val)(p:List UInt8)(l:List Mis)(R:Bool×List Mis)(hd:dep (n+1) v)(ht:fh (n+1) t)(hv:v.ok)(hp:p.length+200*(n+1)≤100000)(hi:q7 false l)(hR:R=jR false l (cW (n+1) t v p))(h:¬ (t.kind<1∨10<t.kind∨¬ v.kind=t.kind))(hf:ae v=false) :
  bM Tryz.prog aE 2 80 [.ptr 0 0,.pv t.pv,.pv v.pv,.pv (.str p)] (cP false l) (.pv (.tup [])) (cP R.1 R.2):=by
 have hd0:=hd
 simp only[dep] at hd0
 have h84:=bZ v (by omega) (by omega) (by omega)
 have h83:=fun c=>nO false l p c (by have:=hi.1;omega)
 have hvo:=hv
 have h83:=h83 8
 rw[bd,yZ h hf,fe] at hR
 obtain⟨k,m,M,s,w,e,fs⟩:=t
 obtain⟨vk,vi,vs,vt,vl,vf⟩:=v
 simp only[dep,fh,Val.lst,Val.fields,Val.text,Typ.fields,Typ.words,Typ.elem,Typ.kind,Val.kind,Typ.min,Typ.max,Typ.scale,Val.num,Val.scale] at *
 obtain⟨d1,d2,d3,d4,d5⟩:=hd
 obtain⟨t1,t2,t3,t4⟩:=ht
 refine bM.intro dP (by simp[F80]) ?_
 rw[Typ.pv_mk,Val.pv_mk] at *
 simp only[cP] at *
 have a:¬ k<1:=by omega
 have b:¬ 10<k:=by omega
 have c:vk=k:=by omega
 subst c
 rw[← hR] at h83
 rw[hf] at h84
 simp(disch:=first|exact dI|fail) only[F80,a,b,push_cast,seval]
 refine ab.pure h84 rfl ?_
 simp(disch:=first|exact dI|fail) only[push_cast,seval]
 refine ab.lentK h83 [0,1] rfl (by simp(disch:=first|exact dI|fail) only[push_cast,seval]) (by simp(disch:=first|exact dI|fail) only[push_cast,seval]) ?_
 simp(disch:=first|exact dI|fail) only[push_cast,seval]
 exact aJ [] (by simp(disch:=first|exact dI|fail) only[push_cast,seval])
theorem Ak (n:Nat)(ih:gO n)(t:Typ)(v:Val)(p:List UInt8)(l:List Mis)(R:Bool×List Mis)(hd:dep (n+1) v)(ht:fh (n+1) t)(hv:v.ok)(hp:p.length+200*(n+1)≤100000)(hi:q7 false l)(hR:R=jR false l (cW (n+1) t v p))(h:¬ (t.kind<1∨10<t.kind∨¬ v.kind=t.kind))(hf:ae v=true)(hk:t.kind=2) :
  bM Tryz.prog aE 2 80 [.ptr 0 0,.pv t.pv,.pv v.pv,.pv (.str p)] (cP false l) (.pv (.tup [])) (cP R.1 R.2):=by
 have hd0:=hd
 simp only[dep] at hd0
 have h84:=bZ v (by omega) (by omega) (by omega)
 have h85:=fun k=>kh false l t p k (by have:=hi.1;omega) _ rfl
 have hvo:=hv
 have h85:=h85 v.num
 rw[bd,jn h hf (by omega)] at hR
 obtain⟨k,m,M,s,w,e,fs⟩:=t
 obtain⟨vk,vi,vs,vt,vl,vf⟩:=v
 simp only[dep,fh,Val.lst,Val.fields,Val.text,Typ.fields,Typ.words,Typ.elem,Typ.kind,Val.kind,Typ.min,Typ.max,Typ.scale,Val.num,Val.scale] at *
 obtain⟨d1,d2,d3,d4,d5⟩:=hd
 obtain⟨t1,t2,t3,t4⟩:=ht
 refine bM.intro dP (by simp[F80]) ?_
 rw[Typ.pv_mk,Val.pv_mk] at *
 simp only[cP] at *
 have c:vk=2:=by omega
 subst hk c
 rw[← hR] at h85
 rw[hf] at h84
 simp(disch:=first|exact dI|fail) only[F80,push_cast,seval]
 refine ab.pure h84 rfl ?_
 simp(disch:=first|exact dI|fail) only[push_cast,seval]
 refine ab.lentK h85 [0,1] rfl (by simp(disch:=first|exact dI|fail) only[push_cast,seval]) (by simp(disch:=first|exact dI|fail) only[push_cast,seval]) ?_
 simp(disch:=first|exact dI|fail) only[push_cast,seval]
 exact aJ [] (by simp(disch:=first|exact dI|fail) only[push_cast,seval])
theorem Ag (n:Nat)(ih:gO n)(t:Typ)(v:Val)(p:List UInt8)(l:List Mis)(R:Bool×List Mis)(hd:dep (n+1) v)(ht:fh (n+1) t)(hv:v.ok)(hp:p.length+200*(n+1)≤100000)(hi:q7 false l)(hR:R=jR false l (cW (n+1) t v p))(h:¬ (t.kind<1∨10<t.kind∨¬ v.kind=t.kind))(hf:ae v=true)(hk:t.kind=6) :
  bM Tryz.prog aE 2 80 [.ptr 0 0,.pv t.pv,.pv v.pv,.pv (.str p)] (cP false l) (.pv (.tup [])) (cP R.1 R.2):=by
 have hd0:=hd
 simp only[dep] at hd0
 have h84:=bZ v (by omega) (by omega) (by omega)
 have h85:=fun k=>kh false l t p k (by have:=hi.1;omega) _ rfl
 have hvo:=hv
 have h85:=h85 v.num
 rw[bd,jn h hf (by omega)] at hR
 obtain⟨k,m,M,s,w,e,fs⟩:=t
 obtain⟨vk,vi,vs,vt,vl,vf⟩:=v
 simp only[dep,fh,Val.lst,Val.fields,Val.text,Typ.fields,Typ.words,Typ.elem,Typ.kind,Val.kind,Typ.min,Typ.max,Typ.scale,Val.num,Val.scale] at *
 obtain⟨d1,d2,d3,d4,d5⟩:=hd
 obtain⟨t1,t2,t3,t4⟩:=ht
 refine bM.intro dP (by simp[F80]) ?_
 rw[Typ.pv_mk,Val.pv_mk] at *
 simp only[cP] at *
 have c:vk=6:=by omega
 subst hk c
 rw[← hR] at h85
 rw[hf] at h84
 simp(disch:=first|exact dI|fail) only[F80,push_cast,seval]
 refine ab.pure h84 rfl ?_
 simp(disch:=first|exact dI|fail) only[push_cast,seval]
 refine ab.lentK h85 [0,1] rfl (by simp(disch:=first|exact dI|fail) only[push_cast,seval]) (by simp(disch:=first|exact dI|fail) only[push_cast,seval]) ?_
 simp(disch:=first|exact dI|fail) only[push_cast,seval]
 exact aJ [] (by simp(disch:=first|exact dI|fail) only[push_cast,seval])
theorem Af (n:Nat)(ih:gO n)(t:Typ)(v:Val)(p:List UInt8)(l:List Mis)(R:Bool×List Mis)(hd:dep (n+1) v)(ht:fh (n+1) t)(hv:v.ok)(hp:p.length+200*(n+1)≤100000)(hi:q7 false l)(hR:R=jR false l (cW (n+1) t v p))(h:¬ (t.kind<1∨10<t.kind∨¬ v.kind=t.kind))(hf:ae v=true)(hk:t.kind=7) :
  bM Tryz.prog aE 2 80 [.ptr 0 0,.pv t.pv,.pv v.pv,.pv (.str p)] (cP false l) (.pv (.tup [])) (cP R.1 R.2):=by
 have hd0:=hd
 simp only[dep] at hd0
 have h84:=bZ v (by omega) (by omega) (by omega)
 have h85:=fun k=>kh false l t p k (by have:=hi.1;omega) _ rfl
 have hvo:=hv
 have h85:=h85 v.num
 rw[bd,jn h hf (by omega)] at hR
 obtain⟨k,m,M,s,w,e,fs⟩:=t
 obtain⟨vk,vi,vs,vt,vl,vf⟩:=v
 simp only[dep,fh,Val.lst,Val.fields,Val.text,Typ.fields,Typ.words,Typ.elem,Typ.kind,Val.kind,Typ.min,Typ.max,Typ.scale,Val.num,Val.scale] at *
 obtain⟨d1,d2,d3,d4,d5⟩:=hd
 obtain⟨t1,t2,t3,t4⟩:=ht
 refine bM.intro dP (by simp[F80]) ?_
 rw[Typ.pv_mk,Val.pv_mk] at *
 simp only[cP] at *
 have c:vk=7:=by omega
 subst hk c
 rw[← hR] at h85
 rw[hf] at h84
 simp(disch:=first|exact dI|fail) only[F80,push_cast,seval]
 refine ab.pure h84 rfl ?_
 simp(disch:=first|exact dI|fail) only[push_cast,seval]
 refine ab.lentK h85 [0,1] rfl (by simp(disch:=first|exact dI|fail) only[push_cast,seval]) (by simp(disch:=first|exact dI|fail) only[push_cast,seval]) ?_
 simp(disch:=first|exact dI|fail) only[push_cast,seval]
 exact aJ [] (by simp(disch:=first|exact dI|fail) only[push_cast,seval])
theorem Al (n:Nat)(ih:gO n)(t:Typ)(v:Val)(p:List UInt8)(l:List Mis)(R:Bool×List Mis)(hd:dep (n+1) v)(ht:fh (n+1) t)(hv:v.ok)(hp:p.length+200*(n+1)≤100000)(hi:q7 false l)(hR:R=jR false l (cW (n+1) t v p))(h:¬ (t.kind<1∨10<t.kind∨¬ v.kind=t.kind))(hf:ae v=true)(hk:t.kind=1) :
  bM Tryz.prog aE 2 80 [.ptr 0 0,.pv t.pv,.pv v.pv,.pv (.str p)] (cP false l) (.pv (.tup [])) (cP R.1 R.2):=by
 have hd0:=hd
 simp only[dep] at hd0
 have h84:=bZ v (by omega) (by omega) (by omega)
 have hvo:=hv
 rw[bd,tC h hf hk,lD] at hR
 obtain⟨k,m,M,s,w,e,fs⟩:=t
 obtain⟨vk,vi,vs,vt,vl,vf⟩:=v
 simp only[dep,fh,Val.lst,Val.fields,Val.text,Typ.fields,Typ.words,Typ.elem,Typ.kind,Val.kind,Typ.min,Typ.max,Typ.scale,Val.num,Val.scale] at *
 obtain⟨d1,d2,d3,d4,d5⟩:=hd
 obtain⟨t1,t2,t3,t4⟩:=ht
 refine bM.intro dP (by simp[F80]) ?_
 rw[Typ.pv_mk,Val.pv_mk] at *
 simp only[cP] at *
 have c:vk=1:=by omega
 subst hk c hR
 rw[hf] at h84
 simp(disch:=first|exact dI|fail) only[F80,push_cast,seval]
 refine ab.pure h84 rfl ?_
 simp(disch:=first|exact dI|fail) only[push_cast,seval]
 exact aJ [] (by simp(disch:=first|exact dI|fail) only[push_cast,seval])
theorem uo (n:Nat)(ih:gO n)(t:Typ)(v:Val)(p:List UInt8)(l:List Mis)(R:Bool×List Mis)(hd:dep (n+1) v)(ht:fh (n+1) t)(hv:v.ok)(hp:p.length+200*(n+1)≤100000)(hi:q7 false l)(hR:R=jR false l (cW (n+1) t v p))(h:¬ (t.kind<1∨10<t.kind∨¬ v.kind=t.kind))(hf:ae v=true)(hk:t.kind=3)(hs:v.scale=t.scale) :
  bM Tryz.prog aE 2 80 [.ptr 0 0,.pv t.pv,.pv v.pv,.pv (.str p)] (cP false l) (.pv (.tup [])) (cP R.1 R.2):=by
 have hd0:=hd
 simp only[dep] at hd0
 have h84:=bZ v (by omega) (by omega) (by omega)
 have h85:=fun k=>kh false l t p k (by have:=hi.1;omega) _ rfl
 have hvo:=hv
 have h85:=h85 v.num
 rw[bd,yY h hf hk hs] at hR
 obtain⟨k,m,M,s,w,e,fs⟩:=t
 obtain⟨vk,vi,vs,vt,vl,vf⟩:=v
 simp only[dep,fh,Val.lst,Val.fields,Val.text,Typ.fields,Typ.words,Typ.elem,Typ.kind,Val.kind,Typ.min,Typ.max,Typ.scale,Val.num,Val.scale] at *
 obtain⟨d1,d2,d3,d4,d5⟩:=hd
 obtain⟨t1,t2,t3,t4⟩:=ht
 refine bM.intro dP (by simp[F80]) ?_
 rw[Typ.pv_mk,Val.pv_mk] at *
 simp only[cP] at *
 have c:vk=3:=by omega
 subst hk c
 rw[← hR] at h85
 rw[hf] at h84
 simp(disch:=first|exact dI|fail) only[F80,push_cast,seval]
 refine ab.pure h84 rfl ?_
 simp(disch:=first|exact dI|fail) only[hs,push_cast,seval]
 refine ab.lentK h85 [0,1] rfl (by simp(disch:=first|exact dI|fail) only[push_cast,seval]) (by simp(disch:=first|exact dI|fail) only[push_cast,seval]) ?_
 simp(disch:=first|exact dI|fail) only[push_cast,seval]
 exact aJ [] (by simp(disch:=first|exact dI|fail) only[push_cast,seval])
theorem Aj (n:Nat)(ih:gO n)(t:Typ)(v:Val)(p:List UInt8)(l:List Mis)(R:Bool×List Mis)(hd:dep (n+1) v)(ht:fh (n+1) t)(hv:v.ok)(hp:p.length+200*(n+1)≤100000)(hi:q7 false l)(hR:R=jR false l (cW (n+1) t v p))(h:¬ (t.kind<1∨10<t.kind∨¬ v.kind=t.kind))(hf:ae v=true)(hk:t.kind=3)(hs:¬ v.scale=t.scale) :
  bM Tryz.prog aE 2 80 [.ptr 0 0,.pv t.pv,.pv v.pv,.pv (.str p)] (cP false l) (.pv (.tup [])) (cP R.1 R.2):=by
 have hd0:=hd
 simp only[dep] at hd0
 have h84:=bZ v (by omega) (by omega) (by omega)
 have h83:=fun c=>nO false l p c (by have:=hi.1;omega)
 have hvo:=hv
 have h83:=h83 3
 rw[bd,pr h hf hk hs,fe] at hR
 obtain⟨k,m,M,s,w,e,fs⟩:=t
 obtain⟨vk,vi,vs,vt,vl,vf⟩:=v
 simp only[dep,fh,Val.lst,Val.fields,Val.text,Typ.fields,Typ.words,Typ.elem,Typ.kind,Val.kind,Typ.min,Typ.max,Typ.scale,Val.num,Val.scale] at *
 obtain⟨d1,d2,d3,d4,d5⟩:=hd
 obtain⟨t1,t2,t3,t4⟩:=ht
 refine bM.intro dP (by simp[F80]) ?_
 rw[Typ.pv_mk,Val.pv_mk] at *
 simp only[cP] at *
 have c:vk=3:=by omega
 subst hk c
 rw[← hR] at h83
 rw[hf] at h84
 simp(disch:=first|exact dI|fail) only[F80,push_cast,seval]
 refine ab.pure h84 rfl ?_
 simp(disch:=first|exact dI|fail) only[hs,push_cast,seval]
 refine ab.lentK h83 [0,1] rfl (by simp(disch:=first|exact dI|fail) only[push_cast,seval]) (by simp(disch:=first|exact dI|fail) only[push_cast,seval]) ?_
 simp(disch:=first|exact dI|fail) only[push_cast,seval]
 exact aJ [] (by simp(disch:=first|exact dI|fail) only[push_cast,seval])
theorem Ah (n:Nat)(ih:gO n)(t:Typ)(v:Val)(p:List UInt8)(l:List Mis)(R:Bool×List Mis)(hd:dep (n+1) v)(ht:fh (n+1) t)(hv:v.ok)(hp:p.length+200*(n+1)≤100000)(hi:q7 false l)(hR:R=jR false l (cW (n+1) t v p))(h:¬ (t.kind<1∨10<t.kind∨¬ v.kind=t.kind))(hf:ae v=true)(hk:t.kind=5) :
  bM Tryz.prog aE 2 80 [.ptr 0 0,.pv t.pv,.pv v.pv,.pv (.str p)] (cP false l) (.pv (.tup [])) (cP R.1 R.2):=by
 have hd0:=hd
 simp only[dep] at hd0
 have h84:=bZ v (by omega) (by omega) (by omega)
 have h85:=fun k=>kh false l t p k (by have:=hi.1;omega) _ rfl
 have hvo:=hv
 have h85:=h85 v.text.length
 rw[bd,km h hf (.inr hk) (by omega)] at hR
 obtain⟨k,m,M,s,w,e,fs⟩:=t
 obtain⟨vk,vi,vs,vt,vl,vf⟩:=v
 simp only[dep,fh,Val.lst,Val.fields,Val.text,Typ.fields,Typ.words,Typ.elem,Typ.kind,Val.kind,Typ.min,Typ.max,Typ.scale,Val.num,Val.scale] at *
 obtain⟨d1,d2,d3,d4,d5⟩:=hd
 obtain⟨t1,t2,t3,t4⟩:=ht
 refine bM.intro dP (by simp[F80]) ?_
 rw[Typ.pv_mk,Val.pv_mk] at *
 simp only[cP] at *
 have c:vk=5:=by omega
 subst hk c
 rw[← hR] at h85
 rw[hf] at h84
 simp(disch:=first|exact dI|fail) only[F80,push_cast,seval]
 refine ab.pure h84 rfl ?_
 simp(disch:=first|exact dI|fail) only[push_cast,seval]
 refine ab.lentK h85 [0,1] rfl (by simp(disch:=first|exact dI|fail) only[push_cast,seval]) (by simp(disch:=first|exact dI|fail) only[push_cast,seval]) ?_
 simp(disch:=first|exact dI|fail) only[push_cast,seval]
 exact aJ [] (by simp(disch:=first|exact dI|fail) only[push_cast,seval])
theorem Ai (n:Nat)(ih:gO n)(t:Typ)(v:Val)(p:List UInt8)(l:List Mis)(R:Bool×List Mis)(hd:dep (n+1) v)(ht:fh (n+1) t)(hv:v.ok)(hp:p.length+200*(n+1)≤100000)(hi:q7 false l)(hR:R=jR false l (cW (n+1) t v p))(h:¬ (t.kind<1∨10<t.kind∨¬ v.kind=t.kind))(hf:ae v=true)(hk:t.kind=4)(hw:t.words.length=0) :
  bM Tryz.prog aE 2 80 [.ptr 0 0,.pv t.pv,.pv v.pv,.pv (.str p)] (cP false l) (.pv (.tup [])) (cP R.1 R.2):=by
 have hd0:=hd
 simp only[dep] at hd0
 have h84:=bZ v (by omega) (by omega) (by omega)
 have h85:=fun k=>kh false l t p k (by have:=hi.1;omega) _ rfl
 have hvo:=hv
 have h85:=h85 v.text.length
 rw[bd,km h hf (.inl hk) (fun _=>hw)] at hR
 obtain⟨k,m,M,s,w,e,fs⟩:=t
 obtain⟨vk,vi,vs,vt,vl,vf⟩:=v
 simp only[dep,fh,Val.lst,Val.fields,Val.text,Typ.fields,Typ.words,Typ.elem,Typ.kind,Val.kind,Typ.min,Typ.max,Typ.scale,Val.num,Val.scale] at *
 obtain⟨d1,d2,d3,d4,d5⟩:=hd
 obtain⟨t1,t2,t3,t4⟩:=ht
 refine bM.intro dP (by simp[F80]) ?_
 rw[Typ.pv_mk,Val.pv_mk] at *
 simp only[cP] at *
 have c:vk=4:=by omega
 subst hk c
 rw[← hR] at h85
 rw[hf] at h84
 have hz:¬ (0:Int)<w.length:=by omega
 simp(disch:=first|exact dI|fail) only[F80,push_cast,seval]
 refine ab.pure h84 rfl ?_
 simp(disch:=first|exact dI|fail) only[push_cast,seval]
 refine ab.lentK h85 [0,1] rfl (by simp(disch:=first|exact dI|fail) only[push_cast,seval]) (by simp(disch:=first|exact dI|fail) only[push_cast,seval]) ?_
 simp(disch:=first|exact dI|fail) only[push_cast,seval]
 exact aJ [] (by simp(disch:=first|exact dI|fail) only[push_cast,seval])
theorem um (n:Nat)(ih:gO n)(t:Typ)(v:Val)(p:List UInt8)(l:List Mis)(R:Bool×List Mis)(hd:dep (n+1) v)(ht:fh (n+1) t)(hv:v.ok)(hp:p.length+200*(n+1)≤100000)(hi:q7 false l)(hR:R=jR false l (cW (n+1) t v p))(h:¬ (t.kind<1∨10<t.kind∨¬ v.kind=t.kind))(hf:ae v=true)(hk:t.kind=4)(hw:0<t.words.length)(ha:(t.words.any fun x=>decide (x=v.text))=true) :
  bM Tryz.prog aE 2 80 [.ptr 0 0,.pv t.pv,.pv v.pv,.pv (.str p)] (cP false l) (.pv (.tup [])) (cP R.1 R.2):=by
 have hd0:=hd
 simp only[dep] at hd0
 have h84:=bZ v (by omega) (by omega) (by omega)
 have h86:=gL t.words v.text (by have:=ht;simp only[fh] at this;omega)
 have hvo:=hv
 rw[bd,tB h hf hk hw ha,lD] at hR
 obtain⟨k,m,M,s,w,e,fs⟩:=t
 obtain⟨vk,vi,vs,vt,vl,vf⟩:=v
 simp only[dep,fh,Val.lst,Val.fields,Val.text,Typ.fields,Typ.words,Typ.elem,Typ.kind,Val.kind,Typ.min,Typ.max,Typ.scale,Val.num,Val.scale] at *
 obtain⟨d1,d2,d3,d4,d5⟩:=hd
 obtain⟨t1,t2,t3,t4⟩:=ht
 refine bM.intro dP (by simp[F80]) ?_
 rw[Typ.pv_mk,Val.pv_mk] at *
 simp only[cP] at *
 have c:vk=4:=by omega
 subst hk c hR
 rw[hf] at h84
 rw[ha] at h86
 have hz:(0:Int)<w.length:=by omega
 simp(disch:=first|exact dI|fail) only[F80,push_cast,seval]
 refine ab.pure h84 rfl ?_
 simp(disch:=first|exact dI|fail) only[push_cast,seval]
 refine ab.pure h86 rfl ?_
 simp(disch:=first|exact dI|fail) only[push_cast,seval]
 exact aJ [] (by simp(disch:=first|exact dI|fail) only[push_cast,seval])
theorem un (n:Nat)(ih:gO n)(t:Typ)(v:Val)(p:List UInt8)(l:List Mis)(R:Bool×List Mis)(hd:dep (n+1) v)(ht:fh (n+1) t)(hv:v.ok)(hp:p.length+200*(n+1)≤100000)(hi:q7 false l)(hR:R=jR false l (cW (n+1) t v p))(h:¬ (t.kind<1∨10<t.kind∨¬ v.kind=t.kind))(hf:ae v=true)(hk:t.kind=4)(hw:0<t.words.length)(ha:(t.words.any fun x=>decide (x=v.text))=false) :
  bM Tryz.prog aE 2 80 [.ptr 0 0,.pv t.pv,.pv v.pv,.pv (.str p)] (cP false l) (.pv (.tup [])) (cP R.1 R.2):=by
 have hd0:=hd
 simp only[dep] at hd0
 have h84:=bZ v (by omega) (by omega) (by omega)
 have h83:=fun c=>nO false l p c (by have:=hi.1;omega)
 have h86:=gL t.words v.text (by have:=ht;simp only[fh] at this;omega)
 have hvo:=hv
 have h83:=h83 4
 rw[bd,mP h hf hk hw ha,fe] at hR
 obtain⟨k,m,M,s,w,e,fs⟩:=t
 obtain⟨vk,vi,vs,vt,vl,vf⟩:=v
 simp only[dep,fh,Val.lst,Val.fields,Val.text,Typ.fields,Typ.words,Typ.elem,Typ.kind,Val.kind,Typ.min,Typ.max,Typ.scale,Val.num,Val.scale] at *
 obtain⟨d1,d2,d3,d4,d5⟩:=hd
 obtain⟨t1,t2,t3,t4⟩:=ht
 refine bM.intro dP (by simp[F80]) ?_
 rw[Typ.pv_mk,Val.pv_mk] at *
 simp only[cP] at *
 have c:vk=4:=by omega
 subst hk c
 rw[← hR] at h83
 rw[hf] at h84
 rw[ha] at h86
 have hz:(0:Int)<w.length:=by omega
 simp(disch:=first|exact dI|fail) only[F80,push_cast,seval]
 refine ab.pure h84 rfl ?_
 simp(disch:=first|exact dI|fail) only[push_cast,seval]
 refine ab.pure h86 rfl ?_
 simp(disch:=first|exact dI|fail) only[push_cast,seval]
 refine ab.lentK h83 [0,1] rfl (by simp(disch:=first|exact dI|fail) only[push_cast,seval]) (by simp(disch:=first|exact dI|fail) only[push_cast,seval]) ?_
 simp(disch:=first|exact dI|fail) only[push_cast,seval]
 exact aJ [] (by simp(disch:=first|exact dI|fail) only[push_cast,seval])
theorem JG (a l:List Mis):(jR false l a).1=!a.isEmpty:=by
 cases a with
 | nil=>rfl
 | cons m r=>rw[jR,kV,nN];rfl
end Go.Proofs.YtbaaokocnegdoaaGreatDoor
