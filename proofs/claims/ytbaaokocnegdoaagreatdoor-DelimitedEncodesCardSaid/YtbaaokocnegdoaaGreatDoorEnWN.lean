/- A part. -/
import Derived.Test.YtbaaokocnegdoaaGreatDoorEnWG
set_option linter.unusedVariables false
set_option linter.unusedSimpArgs false
set_option maxHeartbeats 16000000
set_option maxRecDepth 100000
open List renaming getElem?_eq_getElem->Vg,mem_of_getElem?->Vk,mem_of_find?_eq_some->WL,map_nil->Vo,map_cons->VG,map_append->VI,append_nil->VZ
open Option renaming map_some->Vl,getD_some->VW,isSome_some->V6,map_none->WK,getD_none->V9,isSome_none->V4
namespace Go.Proofs.YtbaaokocnegdoaaGreatDoor
open Go Go.Ab
attribute [local irreducible] vc
def rH:Nat->Val->Prop
 | 0,_=>True
 | n+1,v=>v.lst.length<=300/\v.fields.length<=300/\v.text.length<=5000/\(∀ x∈v.lst,rH n x)/\∀ f∈v.fields,f.name.length<=100/\rH n f.value
theorem jK:∀ (n k:Nat) (v:Val),dep (n+k) v->rH n v
 | 0,_,_,_=>trivial
 | n+1,k,v,h=>by
   rw[show n+1+k=(n+k)+1 by omega] at h
   exact⟨h.1,h.2.1,h.2.2.1,fun x hx=>jK n k x (h.2.2.2.1 x hx),fun f hf=>⟨(h.2.2.2.2 f hf).1,jK n k _ (h.2.2.2.2 f hf).2⟩⟩
def jn:Bool->List Mis->Mis->Bool×List Mis
 | true,l,_=>(true,l)
 | false,l,m=>(true,l++[m])
def gz:Bool->List Mis->List Mis->Bool×List Mis
 | d,l,[]=>(d,l)
 | d,l,m::r=>gz (jn d l m).1 (jn d l m).2 r
def kj (d:Bool)(l:List Mis):List Blk:=[.cells 133 true [.clo 79 [] [.ptr 1 0],.pv (.bool d)],.cells 4 true [.pv (.bool (!d))]]
theorem UY (d:Bool)(m:Mis):bk Tryz.prog aq 1 79 [.pv m.pv,.ptr 0 0] [.cells 4 true [.pv (.bool d)]] (.pv (.bool false)) [.cells 4 true [.pv (.bool false)]]:=by
 obtain⟨p,c⟩:=m
 refine bk.intro Q79.2 (by simp[Q79]) ?_
 simp(disch:=try exact dI) only[Q79,U4,push_cast,seval]
 exact aC [] qsZ
theorem wY (d:Bool)(l:List Mis)(p:List UInt8)(c:Int)(hl:l.length<=100000):bk Tryz.prog aq 2 129 [.ptr 0 0,.pv (.str p),.pv (.int .i64 c)] (kj d l) (.pv (.tup [])) (kj (jn d l (.mk p c)).1 (jn d l (.mk p c)).2):=by
 have h63:=UY true (.mk p c)
 rw[U4] at h63
 refine bk.intro Se.2 (by simp[Se]) ?_
 cases d with
 | true=>
   rw[jn]
   simp(disch:=try exact dI) only[Se,kj,push_cast,seval]
   exact aC [] qsZ
 | false=>
   rw[jn]
   simp(disch:=try exact dI) only[Se,kj,push_cast,seval]
   refine ab.lentK h63 [1] rfl qsZ qsZ ?_
   refine zgZ ?_
   exact aC [] qsZ
theorem jc (d:Bool)(l:List Mis)(m:Mis):gz d l [m]=jn d l m:=rfl
theorem kQ (d:Bool)(l:List Mis):gz d l []=(d,l):=rfl
theorem kR:∀ (a b:List Mis) (d:Bool) (l:List Mis),gz d l (a++b)=gz (gz d l a).1 (gz d l a).2 b
 | [],b,d,l=>rfl
 | m::r,b,d,l=>by rw[List.cons_append,gz,kR r b,gz]
theorem mY:∀ (a:List Mis) (l:List Mis),gz true l a=(true,l)
 | [],l=>rfl
 | m::r,l=>by rw[gz,jn];exact mY r l
theorem PS (d:Bool)(l:List Mis)(t:Typ)(p:List UInt8)(n:Int)(hl:l.length<=100000)(R:Bool×List Mis)(hR:R=gz d l (kB t.min t.max p n)) :
  bk Tryz.prog aq 2 131 [.ptr 0 0,.pv t.pv,.pv (.str p),.pv (.int .i64 n)] (kj d l) (.pv (.tup [])) (kj R.1 R.2):=by
 have h83:=wY d l p 2 hl
 obtain⟨k,m,M,s,w,e,f⟩:=t
 simp only[Typ.min,Typ.max] at hR
 refine bk.intro Oa.2 (by simp[Oa]) ?_
 unfold kj at h83 ⊢
 by_cases h1:n<m
 ·rw[vE (.inl h1),jc] at hR
  rw[<- hR] at h83
  simp(disch:=try exact dI) only[Oa,Vd,push_cast,seval]
  refine ab.lentK h83 [0,1] rfl qsZ qsZ ?_
  refine zgZ ?_
  exact aC [] qsZ
 ·by_cases h2:M<n
  ·rw[vE (.inr h2),jc] at hR
   rw[<- hR] at h83
   simp(disch:=try exact dI) only[Oa,Vd,push_cast,seval]
   refine ab.lentK h83 [0,1] rfl qsZ qsZ ?_
   refine zgZ ?_
   exact aC [] qsZ
  ·rw[Kc (fun h=>h.elim h1 h2),kQ] at hR
   subst hR
   simp(disch:=try exact dI) only[Oa,Vd,push_cast,seval]
   exact aC [] qsZ
theorem zb {d:Bool}{l:List Mis}(h:SS d l)(m:Mis):SS (jn d l m).1 (jn d l m).2:=by
 cases d with
 | true=>exact h
 | false=>
   have:=h.2 rfl
   exact⟨by simp[jn];omega,fun hh=>by simp[jn] at hh⟩
def Ox:=SS
theorem kE:∀ (a:List Mis) {d:Bool} {l:List Mis},Ox d l->Ox (gz d l a).1 (gz d l a).2
 | [],d,l,h=>h
 | m::r,d,l,h=>kE r (zb h m)
def RT:Prop:=∀ (t:Typ) (v:Val) (p:List UInt8) (d:Bool) (l:List Mis) (R:Bool×List Mis),rH 1 v->eK 1 t->t.kind<=7->v.ok->p.length<=2000->Ox d l->R=gz d l (aO 1 t v p) ->
 bk Tryz.prog aq 2 80 [.ptr 0 0,.pv t.pv,.pv v.pv,.pv (.str p)] (kj d l) (.pv (.tup [])) (kj R.1 R.2)
theorem Ce (ih:RT)(t:Typ)(v:Val)(p:List UInt8)(d:Bool)(l:List Mis)(R:Bool×List Mis)(hd:rH 2 v)(ht:eK 2 t)(hsc:∀ g∈t.fields,g.typ.kind<=7)(hv:v.ok)(hk:v.kind=9)(hp:p.length<=1000)(hi:Ox d l)(hR:R=gz d l (vm (aO 1) t v p)) :
  bk Tryz.prog aq 2 133 [.ptr 0 0,.pv t.pv,.pv v.pv,.pv (.str p)] (kj d l) (.pv (.tup [])) (kj R.1 R.2):=by
 have h113:=fun name=>pn v name hv hk
 have h89:=fun name=>sv t name
 obtain⟨k,m,M,s,w,e,fs⟩:=t
 obtain⟨vk,vi,vs,vt,vl,vf⟩:=v
 simp only[rH,eK,Val.lst,Val.fields,Val.text,Typ.fields,Typ.words,Typ.elem,vm] at hd ht hR h113 h89 hsc
 obtain⟨d1,d2,d3,d4,d5⟩:=hd
 obtain⟨t1,t2,t3,t4⟩:=ht
 rw[Ve] at hv
 refine bk.intro RO.2 (by simp[RO]) ?_
 rw[Vd,Vf] at *
 generalize hF1:dS (aO 1) vf p=F1 at hR
 generalize hF2:fl fs p=F2 at hR
 simp(disch:=try exact dI) only[RO,kj,push_cast,seval]
 refine ap ([]) (fun i:Nat=>[(19,.pv (.int .i64 (i:Int)))]) (fun i=>[(0,.cells 133 true [.clo 79 [] [.ptr 1 0],.pv (.bool (gz d l ((fs.take i).flatMap F1)).1)]),(1,.cells 4 true [.pv (.bool (!(gz d l ((fs.take i).flatMap F1)).1))])]) (fun i=>i<=fs.length) (fun i=>fs.length - i) (0) ?_;intro e0 σ0 n0 h0;simp(disch:=try exact dI) only[push_cast,seval] at h0;obtain⟨rfl,rfl,rfl⟩:=h0;refine⟨?_,?_,?_⟩
 ·simp(disch:=try exact dI) only[gz,List.flatMap_nil,push_cast,seval]
 ·omega
 ·intro i hi2
  by_cases hlt:i<fs.length
  ·have hltI:(i:Int)<fs.length:=by omega
   obtain⟨x,hx⟩:∃ x,fs[i]? = some x:=⟨_,Vg hlt⟩
   have hsn:=iO F1 hx
   have hinv:=kE ((fs.take i).flatMap F1) hi
   have happ:=kR ((fs.take i).flatMap F1) (F1 x) d l
   rw[<- hsn] at happ
   generalize gz d l ((fs.take i).flatMap F1)=S at *
   obtain⟨Sd,Sl⟩:=S
   simp only at hinv happ
   obtain⟨hxn,hxt⟩:=t4 x (Vk hx)
   have hxk:=hsc x (Vk hx)
   have hF1x:F1 x=dS (aO 1) vf p x:=by rw[hF1]
   obtain⟨x1,x2,x3,⟨y1,y2,y3,y4,y5,y6,y7⟩,x5⟩:=x
   simp only[TFd.name,TFd.typ] at hxn hxt hxk
   have hc:=h113 x2 (by omega)
   have hul:=f9 p x2
   have hu:=uK p x2 (by omega) (by omega)
   cases hfd:vf.find? (aN x2) with
   | some y=>
     rw[hfd] at hc
     rw[cJ (by exact hfd)] at hF1x
     have hym:=WL hfd
     have hyd:=(d5 y hym).2
     have hyo:=hv.2.2.2.2.2.2.2 y hym
     obtain⟨yn,yv⟩:=y
     rw[U2] at hyo
     simp only[Fld.value,TFd.typ,TFd.name] at hyd hF1x
     have hih:=ih (.mk y1 y2 y3 y4 y5 y6 y7) yv (cx p x2) Sd Sl _ hyd hxt hxk hyo.2 (by omega) hinv rfl
     rw[<- hF1x,<- happ] at hih
     obtain⟨z1,z2,z3,z4,z5,z6⟩:=yv
     simp only[vlR,Vl,VW,V6,Fld.value,Vf] at hc
     simp only[kj,Vd,Vf] at hih
     simp(disch:=try exact dI) only[hx,U7,Vd,push_cast,seval]
     refine ab.pure hc rfl ?_
     simp(disch:=try exact dI) only[U7,Vd,push_cast,seval]
     refine ak hu rfl ?_
     refine zgZ ?_
     refine ab.lentK hih [0,1] rfl qsZ qsZ ?_
     refine zgZ ?_
     exact⟨i+1,aI qsZ,by omega,by omega⟩
   | none=>
     rw[hfd] at hc
     simp only[vlR,WK,V9,V4,aK,Vf,Vo] at hc
     by_cases hn:x3=2
     ·rw[eE (by exact hfd) (by exact hn)] at hF1x
      rw[hF1x,kQ] at happ
      simp(disch:=try exact dI) only[hx,U7,Vd,hn,push_cast,seval]
      refine ab.pure hc rfl ?_
      simp(disch:=try exact dI) only[U7,Vd,push_cast,seval]
      exact⟨i+1,aI (by simp(disch:=try exact dI) only[happ,push_cast,seval]),by omega,by omega⟩
     ·rw[cK (by exact hfd) (by exact hn)] at hF1x
      simp only[TFd.name] at hF1x
      rw[hF1x,jc] at happ
      have h83:=wY Sd Sl (cx p x2) 5 (by have:=hinv.1;omega)
      rw[<- happ] at h83
      simp only[kj] at h83
      simp(disch:=try exact dI) only[hx,U7,Vd,push_cast,seval]
      refine ab.pure hc rfl ?_
      simp(disch:=try exact dI) only[U7,Vd,push_cast,seval]
      refine ab.pure hu rfl ?_
      refine zgZ ?_
      refine ab.lentK h83 [0,1] rfl qsZ qsZ ?_
      refine zgZ ?_
      exact⟨i+1,aI qsZ,by omega,by omega⟩
  ·have hltI:¬ (i:Int)<fs.length:=by omega
   have hinv:=kE (fs.flatMap F1) hi
   rw[kR] at hR
   rw[ku hlt]
   generalize gz d l (fs.flatMap F1)=S at *
   obtain⟨Sd,Sl⟩:=S
   simp only at hinv hR
   refine zgZ ?_
   refine ap ([]) (fun i:Nat=>[(53,.pv (.int .i64 (i:Int)))]) (fun i=>[(0,.cells 133 true [.clo 79 [] [.ptr 1 0],.pv (.bool (gz Sd Sl ((vf.take i).flatMap F2)).1)]),(1,.cells 4 true [.pv (.bool (!(gz Sd Sl ((vf.take i).flatMap F2)).1))])]) (fun i=>i<=vf.length) (fun i=>vf.length - i) (0) ?_;intro e0 σ0 n0 h0;simp(disch:=try exact dI) only[push_cast,seval] at h0;obtain⟨rfl,rfl,rfl⟩:=h0;refine⟨?_,?_,?_⟩
   ·simp(disch:=try exact dI) only[gz,List.flatMap_nil,push_cast,seval]
   ·omega
   ·intro i hi2
    by_cases hlt:i<vf.length
    ·have hltI:(i:Int)<vf.length:=by omega
     obtain⟨x,hx⟩:∃ x,vf[i]? = some x:=⟨_,Vg hlt⟩
     have hsn:=iO F2 hx
     have hinv2:=kE ((vf.take i).flatMap F2) hinv
     have happ:=kR ((vf.take i).flatMap F2) (F2 x) Sd Sl
     rw[<- hsn] at happ
     generalize gz Sd Sl ((vf.take i).flatMap F2)=T at *
     obtain⟨Td,Tl⟩:=T
     simp only at hinv2 happ
     have hxn:=(d5 x (Vk hx)).1
     have hF2x:F2 x=fl fs p x:=by rw[hF2]
     obtain⟨x1,⟨y1,y2,y3,y4,y5,y6⟩⟩:=x
     simp only[Fld.name] at hxn
     have hc:=h89 x1 (by omega)
     have hul:=f9 p x1
     have hu:=uK p x1 (by omega) (by omega)
     cases hfd:fs.find? (named x1) with
     | some z=>
       rw[hfd] at hc
       rw[lS (by exact hfd)] at hF2x
       rw[hF2x,kQ] at happ
       obtain⟨z1,z2,z3,⟨w1,w2,w3,w4,w5,w6,w7⟩,z5⟩:=z
       simp only[tfR,VW,V6,U7,Vd] at hc
       simp(disch:=try exact dI) only[hx,U3,Vf,push_cast,seval]
       refine ab.pure hc rfl ?_
       refine zgZ ?_
       exact⟨i+1,aI (by simp(disch:=try exact dI) only[happ,push_cast,seval]),by omega,by omega⟩
     | none=>
       rw[hfd] at hc
       rw[gW (by exact hfd)] at hF2x
       simp only[Fld.name] at hF2x
       rw[hF2x,jc] at happ
       have h83:=wY Td Tl (cx p x1) 6 (by have:=hinv2.1;omega)
       rw[<- happ] at h83
       simp only[kj] at h83
       simp only[tfR,V9,V4,gG,U7,Vd,Vo] at hc
       simp(disch:=try exact dI) only[hx,U3,Vf,push_cast,seval]
       refine ab.pure hc rfl ?_
       refine zgZ ?_
       refine ab.pure hu rfl ?_
       refine zgZ ?_
       refine ab.lentK h83 [0,1] rfl qsZ qsZ ?_
       refine zgZ ?_
       exact⟨i+1,aI qsZ,by omega,by omega⟩
    ·have hltI:¬ (i:Int)<vf.length:=by omega
     rw[ku hlt]
     rw[<- hR]
     refine zgZ ?_
     exact aC [] qsZ
theorem Et (n:Nat)(t:Typ)(v:Val)(p:List UInt8)(l:List Mis)(hd:rH (n+1) v)(ht:eK (n+1) t)(hp:p.length<=2000)(hi:Ox false l)(hk:t.kind<=7\/t.kind=9)
  (h88:t.kind=9->v.kind=9->bk Tryz.prog aq 2 133 [.ptr 0 0,.pv t.pv,.pv v.pv,.pv (.str p)] (kj false l) (.pv (.tup [])) (kj (gz false l (vm (aO n) t v p)).1 (gz false l (vm (aO n) t v p)).2)) :
  bk Tryz.prog aq 2 80 [.ptr 0 0,.pv t.pv,.pv v.pv,.pv (.str p)] (kj false l) (.pv (.tup [])) (kj (gz false l (aO (n+1) t v p)).1 (gz false l (aO (n+1) t v p)).2):=by
 simp only[rH] at hd
 simp only[eK] at ht
 have h84:=IT v (by omega) (by omega) (by omega)
 have h83:=fun c=>wY false l p c (by have:=hi.1;omega)
 have h85:=fun k=>PS false l t p k (by have:=hi.1;omega) _ rfl
 have h86:=om t.words v.text (by omega)
 rw[ba]
 have hc:=Dt (aO n) t v p hk rfl rfl rfl
 clear hd ht hi hp hk
 generalize aE v=F at h84 hc
 generalize (t.words.any fun x=>decide (x=v.text))=A at h86 hc
 generalize cu (aO n) t v p=X at hc ⊢
 rcases hc with ⟨a,e⟩ | ⟨a,b,e⟩ | ⟨a,b,c,e⟩ | ⟨a,b,c,rfl,e⟩ | ⟨hk,c,rfl,e⟩ | ⟨hk,c,rfl,e⟩ | ⟨hk,c,rfl,e⟩ | ⟨hk,c,rfl,e⟩ | ⟨hk,c,rfl,hs,e⟩ | ⟨hk,c,rfl,hs,e⟩ | ⟨hk,c,rfl,e⟩ | ⟨hk,c,rfl,hz,e⟩ | ⟨hk,c,rfl,hz,rfl,e⟩ | ⟨hk,c,rfl,hz,rfl,e⟩ | ⟨hk,c,rfl,e⟩
 all_goals
  first
   | (have e1:X=[.mk p 1]:=e;clear e1;have hL:=h83 1)
   | (have e1:X=[.mk p 8]:=e;clear e1;have hL:=h83 8)
   | (have e1:X=[.mk p 3]:=e;clear e1;have hL:=h83 3)
   | (have e1:X=[.mk p 4]:=e;clear e1;have hL:=h83 4)
   | (have e1:X=kB t.min t.max p v.num:=e;clear e1;have hL:=h85 v.num)
   | (have e1:X=kB t.min t.max p v.text.length:=e;clear e1;have hL:=h85 v.text.length)
   | have hL:=h88 hk c
   | skip
  subst e
  clear h83 h85 h88
  obtain⟨k,m,M,s,w,e,fs⟩:=t
  obtain⟨vk,vi,vs,vt,vl,vf⟩:=v
  simp only[Val.text,Typ.words,Typ.kind,Val.kind,Typ.min,Typ.max,Typ.scale,Val.num,Val.scale] at *
  try subst hk
  try subst c
  try subst hs
  simp only[kj,Vd,Vf,jc,kQ] at *
  refine bk.intro Q80.2 (by simp[Q80]) ?_
  simp(disch:=try exact dI) only[Q80, *,push_cast,seval]
  try
   refine ab.pure h84 rfl ?_
   simp(disch:=try exact dI) only[*,push_cast,seval]
  try
   refine ab.pure h86 rfl ?_
   refine zgZ ?_
   skip
  try
   refine ab.lentK hL [0,1] rfl qsZ qsZ ?_
   refine zgZ ?_
   skip
  exact aC [] qsZ
theorem Er:RT:=by
 intro t v p d l R hd ht h7 hv hp hi hR
 cases d with
 | true=>
   rw[mY] at hR;subst hR
   obtain⟨k,m,M,s,w,e,fs⟩:=t
   obtain⟨vk,vi,vs,vt,vl,vf⟩:=v
   refine bk.intro Q80.2 (by simp[Q80]) ?_
   simp(disch:=try exact dI) only[Q80,kj,Vd,Vf,push_cast,seval]
   exact aC [] qsZ
 | false=>
   subst hR
   exact Et 0 t v p l hd ht hp hi (.inl h7) (fun h=>absurd h (by omega))
theorem Ng (t:Typ)(v:Val)(R:Bool×List Mis)(hd:rH 2 v)(ht:eK 2 t)(h9:t.kind=9)(hsc:∀ g∈t.fields,g.typ.kind<=7)(hv:v.ok)(hR:R=gz false [] (aO 2 t v [])) :
  bk Tryz.prog aq 2 80 [.ptr 0 0,.pv t.pv,.pv v.pv,.pv (.str [])] (kj false []) (.pv (.tup [])) (kj R.1 R.2):=by
 have hi:Ox false []:=⟨by simp,by simp⟩
 subst hR
 exact Et 1 t v [] [] hd ht (by simp) hi (.inr h9) fun _ h=>Ce Er t v [] false [] _ hd ht hsc hv h (by simp) hi rfl
theorem FC (a l:List Mis):(gz false l a).1=!a.isEmpty:=by
 cases a with
 | nil=>rfl
 | cons m r=>rw[gz,jn,mY];rfl
theorem Qn (t:Typ)(v:Val)(hd:rH 2 v)(ht:eK 2 t)(h9:t.kind=9)(hsc:∀ g∈t.fields,g.typ.kind<=7)(hv:v.ok):ae Tryz.prog aq 37 [t.pv,v.pv] (.bool (aO 2 t v []).isEmpty):=by
 have h56:=Ng t v _ hd ht h9 hsc hv rfl
 have e:=FC (aO 2 t v []) []
 generalize gz false [] (aO 2 t v [])=S at *
 obtain⟨Sd,Sl⟩:=S
 simp only at e
 have e2:(aO 2 t v []).isEmpty=!Sd:=by rw[e,Bool.not_not]
 rw[e2]
 obtain⟨k,m,M,s,w,e,fs⟩:=t
 obtain⟨vk,vi,vs,vt,vl,vf⟩:=v
 simp only[kj,Vd,Vf,Vo] at h56
 refine ae.intro Q37.2 (by simp[Q37]) ?_
 simp(disch:=try exact dI) only[Q37,Vd,Vf,push_cast,seval]
 refine ab.lentK h56 [4,2] rfl qsZ qsZ ?_
 exact qsZ
theorem Ej {α β:Type}(F:α->List β)(B:Nat):∀ (l:List α),(∀ x∈l,(F x).length<=B)->(l.flatMap F).length<=l.length*B
 | [],_=>by simp
 | x::r,h=>by
   have h1:=h x (by simp)
   have h2:=Ej F B r (fun y hy=>h y (by simp[hy]))
   rw[List.flatMap_cons,List.length_append,List.length_cons,Nat.succ_mul];omega
theorem HI (a b:Int)(p:List UInt8)(n:Int):(kB a b p n).length<=1:=by unfold kB;split<;>simp
theorem yB (ts:List TFd)(p:List UInt8)(x:Fld):(fl ts p x).length<=1:=by
 unfold fl;split<;>simp
theorem pJ:∀ n,dep (n+1) aK:=by
 intro n
 simp[dep,aK,Val.lst,Val.fields,Val.text]
theorem H6 {t:Typ}(v:Val)(p:List UInt8)(hk:t.kind<=7):(aO 1 t v p).length<=1:=by
 rw[ba,cu]
 have ho:=fun k=>HI t.min t.max p k
 repeat' split
 all_goals first | exact ho _ | (exfalso;omega) | (simp;done)
theorem oe {fs:List Fld}{p:List UInt8}{x:TFd}(hx:x.typ.kind<=7):(dS (aO 1) fs p x).length<=1:=by
 cases h:fs.find? (aN x.name) with
 | some y=>rw[cJ h];exact H6 _ _ hx
 | none=>
   by_cases hn:x.need=2
   ·rw[eE h hn];simp
   ·rw[cK h hn];simp
theorem Kh:∀ l:List Mis,((l.map Mis.pv).all fun y=>y.cells.length == 2)=true
 | []=>rfl
 | x::r=>by rw[VG,List.all_cons,Kh r,Mis.cells_len];rfl
theorem Eg {α β:Type}(F:α->List β){l:List α}(h:∀ x∈l,(F x).length<=1)(m:Nat):((l.take m).flatMap F).length<=l.length:=by
 have h1:=Ej F 1 (l.take m) (fun x hx=>h x (List.mem_of_mem_take hx))
 rw[List.length_take] at h1;omega
def UI:Prop:=∀ (t:Typ) (v:Val) (p:List UInt8),rH 1 v->eK 1 t->t.kind<=7->v.ok->p.length<=2000->ae Tryz.prog aq 24 [t.pv,v.pv,.str p] (.list ((aO 1 t v p).map Mis.pv))
theorem IY (ih:UI)(t:Typ)(v:Val)(p:List UInt8)(hd:rH 2 v)(ht:eK 2 t)(hsc:∀ g∈t.fields,g.typ.kind<=7)(htf:t.fields.length<=900000000000)(hv:v.ok)(hp:p.length<=1000) :
  ae Tryz.prog aq 64 [t.pv,v.pv,.str p] (.list ((vm (aO 1) t v p).map Mis.pv)):=by
 have hvl:v.fields.length<=1400000000000:=by obtain⟨vk,vi,vs,vt,vl,vf⟩:=v;rw[Ve] at hv;simp only[Val.fields];omega
 have h92:=fun name=>Nk v name (by simp only[rH] at hd;omega)
 have h61:=fun name=>sw t name (by simp only[eK] at ht;omega)
 have hl1:=Eg (dS (aO 1) v.fields p) (l:=t.fields) (fun x hx=>oe (hsc x hx))
 have hl1x:=fun x hx=>oe (fs:=v.fields) (p:=p) (x:=x) (hsc x hx)
 have hl2:=Eg (fl t.fields p) (l:=v.fields) (fun x _=>yB _ _ _)
 rw[vm]
 obtain⟨k,m,M,s,w,e,fs⟩:=t
 obtain⟨vk,vi,vs,vt,vl,vf⟩:=v
 simp only[rH,eK,Val.lst,Val.fields,Val.text,Typ.fields,Typ.words,Typ.elem] at *
 obtain⟨d1,d2,d3,d4,d5⟩:=hd
 obtain⟨t1,t2,t3,t4⟩:=ht
 rw[Ve] at hv
 rw[Vd,Vf] at *
 generalize hF1:dS (aO 1) vf p=F1 at *
 generalize hF2:fl fs p=F2 at *
 refine ae.intro Q64.2 (by simp[Q64]) ?_
 simp(disch:=try exact dI) only[Q64,push_cast,seval]
 refine ap ([(7,0,109,2)]) (fun i:Nat=>[(7,.olist 0 2 (((fs.take i).flatMap F1).map Mis.pv)),(8,.pv (.int .i64 (i:Int)))]) (fun i=>[]) (fun i=>i<=fs.length) (fun i=>fs.length - i) (0) ?_;intro e0 σ0 n0 h0;simp(disch:=try exact dI) only[push_cast,seval] at h0;obtain⟨rfl,rfl,rfl⟩:=h0;refine⟨?_,?_,?_⟩
 ·simp(disch:=try exact dI) only[List.flatMap_nil,Vo,push_cast,seval]
 ·omega
 ·intro i hi2
  by_cases hlt:i<fs.length
  ·have hltI:(i:Int)<fs.length:=by omega
   obtain⟨x,hx⟩:∃ x,fs[i]? = some x:=⟨_,Vg hlt⟩
   have hsn:=iO F1 hx
   have hl3:=hl1 i
   have hl4:=hl1x x (Vk hx)
   obtain⟨hxn,hxt⟩:=t4 x (Vk hx)
   have hxk:=hsc x (Vk hx)
   have hF1x:F1 x=dS (aO 1) vf p x:=by rw[hF1]
   generalize (fs.take i).flatMap F1=S at *
   obtain⟨x1,x2,x3,⟨y1,y2,y3,y4,y5,y6,y7⟩,x5⟩:=x
   simp only[TFd.name,TFd.typ] at hxn hxt hxk
   have hc:=h92 x2
   have hul:=f9 p x2
   have hu:=Kj p x2 (by omega) (by omega)
   cases hfd:vf.find? (aN x2) with
   | some y=>
     rw[hfd] at hc
     rw[cJ (by exact hfd)] at hF1x
     have hym:=WL hfd
     have hyd:=(d5 y hym).2
     have hyo:=hv.2.2.2.2.2.2.2 y hym
     obtain⟨yn,yv⟩:=y
     rw[U2] at hyo
     simp only[Fld.value,TFd.typ,TFd.name] at hyd hF1x
     have hih:=ih (.mk y1 y2 y3 y4 y5 y6 y7) yv (cx p x2) hyd hxt hxk hyo.2 (by omega)
     rw[<- hF1x] at hih
     have hma:=Kh (F1 (.mk x1 x2 x3 (.mk y1 y2 y3 y4 y5 y6 y7) x5))
     generalize F1 (.mk x1 x2 x3 (.mk y1 y2 y3 y4 y5 y6 y7) x5)=T at *
     obtain⟨z1,z2,z3,z4,z5,z6⟩:=yv
     simp only[vlR,Vl,VW,V6,Fld.value,Vf] at hc
     simp only[Vd,Vf] at hih
     simp(disch:=try exact dI) only[hx,U7,Vd,push_cast,seval]
     refine ab.pure hc rfl ?_
     simp(disch:=try exact dI) only[U7,Vd,push_cast,seval]
     refine ak hu rfl ?_
     refine zgZ ?_
     refine ak hih rfl ?_
     simp(disch:=try exact dI) only[hma,push_cast,seval]
     exact⟨i+1,aI (by simp(disch:=try exact dI) only[hsn,VI,push_cast,seval]),by omega,by omega⟩
   | none=>
     rw[hfd] at hc
     simp only[vlR,WK,V9,V4,aK,Vf,Vo] at hc
     by_cases hn:x3=2
     ·rw[eE (by exact hfd) (by exact hn)] at hF1x
      simp(disch:=try exact dI) only[hx,U7,Vd,hn,push_cast,seval]
      refine ab.pure hc rfl ?_
      simp(disch:=try exact dI) only[U7,Vd,push_cast,seval]
      subst hn
      exact⟨i+1,aI (by simp(disch:=try exact dI) only[hsn,hF1x,VZ,push_cast,seval]),by omega,by omega⟩
     ·rw[cK (by exact hfd) (by exact hn)] at hF1x
      simp only[TFd.name] at hF1x
      simp(disch:=try exact dI) only[hx,U7,Vd,push_cast,seval]
      refine ab.pure hc rfl ?_
      simp(disch:=try exact dI) only[U7,Vd,push_cast,seval]
      refine ab.pure hu rfl ?_
      refine zgZ ?_
      exact⟨i+1,aI (by simp(disch:=try exact dI) only[hsn,hF1x,VI,U4,VG,Vo,push_cast,seval]),by omega,by omega⟩
  ·have hltI:¬ (i:Int)<fs.length:=by omega
   have hl3:=hl1 i
   rw[ku hlt] at hl3 ⊢
   generalize fs.flatMap F1=S at *
   refine zgZ ?_
   refine ap ([]) (fun i:Nat=>[(7,.olist 0 2 ((S++(vf.take i).flatMap F2).map Mis.pv)),(12,.pv (.int .i64 (i:Int)))]) (fun i=>[]) (fun i=>i<=vf.length) (fun i=>vf.length - i) (0) ?_;intro e0 σ0 n0 h0;simp(disch:=try exact dI) only[push_cast,seval] at h0;obtain⟨rfl,rfl,rfl⟩:=h0;refine⟨?_,?_,?_⟩
   ·simp(disch:=try exact dI) only[List.flatMap_nil,VZ,push_cast,seval]
   ·omega
   ·intro i hi2
    by_cases hlt:i<vf.length
    ·have hltI:(i:Int)<vf.length:=by omega
     obtain⟨x,hx⟩:∃ x,vf[i]? = some x:=⟨_,Vg hlt⟩
     have hsn:=iO F2 hx
     have hl4:=hl2 i
     have hF2x:F2 x=fl fs p x:=by rw[hF2]
     have hxn:=(d5 x (Vk hx)).1
     generalize (vf.take i).flatMap F2=T at *
     obtain⟨x1,⟨y1,y2,y3,y4,y5,y6⟩⟩:=x
     simp only[Fld.name] at hxn
     have hc:=h61 x1
     have hul:=f9 p x1
     have hu:=Kj p x1 (by omega) (by omega)
     cases hfd:fs.find? (named x1) with
     | some z=>
       rw[hfd] at hc
       rw[lS (by exact hfd)] at hF2x
       obtain⟨z1,z2,z3,⟨w1,w2,w3,w4,w5,w6,w7⟩,z5⟩:=z
       simp only[tfR,VW,V6,U7,Vd] at hc
       simp(disch:=try exact dI) only[hx,U3,Vf,push_cast,seval]
       refine ak hc rfl ?_
       refine zgZ ?_
       exact⟨i+1,aI (by simp(disch:=try exact dI) only[hsn,hF2x,VZ,push_cast,seval]),by omega,by omega⟩
     | none=>
       rw[hfd] at hc
       rw[gW (by exact hfd)] at hF2x
       simp only[Fld.name] at hF2x
       simp only[tfR,V9,V4,gG,U7,Vd,Vo] at hc
       simp(disch:=try exact dI) only[hx,U3,Vf,push_cast,seval]
       refine ak hc rfl ?_
       simp(disch:=try exact dI) only[hx,U3,Vf,push_cast,seval]
       refine ab.pure hu rfl ?_
       refine zgZ ?_
       exact⟨i+1,aI (by simp(disch:=try exact dI) only[hsn,hF2x,VI,List.append_assoc,U4,VG,Vo,push_cast,seval]),by omega,by omega⟩
    ·have hltI:¬ (i:Int)<vf.length:=by omega
     rw[ku hlt]
     exact qsZ
theorem PR {mn mx q:Int}{p:List UInt8}{X:List Mis}(e:X=kB mn mx p q):(q<mn/\X=[.mk p 2])\/(¬ q<mn/\mx<q/\X=[.mk p 2])\/(¬ q<mn/\¬ mx<q/\X=[]):=by
 subst e
 by_cases a:q<mn
 ·exact .inl ⟨a,vE (.inl a)⟩
 by_cases b:mx<q
 ·exact .inr (.inl ⟨a,b,vE (.inr b)⟩)
 ·exact .inr (.inr ⟨a,b,Kc (fun h=>h.elim a b)⟩)
theorem Rq (n:Nat)(t:Typ)(v:Val)(p:List UInt8)(hd:rH (n+1) v)(ht:eK (n+1) t)(hp:p.length<=2000)(hk:t.kind<=7\/t.kind=9)
  (h60:t.kind=9->ae Tryz.prog aq 64 [t.pv,v.pv,.str p] (.list ((vm (aO n) t v p).map Mis.pv))):ae Tryz.prog aq 24 [t.pv,v.pv,.str p] (.list ((aO (n+1) t v p).map Mis.pv)):=by
 simp only[rH] at hd
 simp only[eK] at ht
 have h57:=IU v (by omega) (by omega) (by omega)
 have h58:=S0 t.words v.text (by omega)
 rw[ba]
 have hc:=Dt (aO n) t v p hk rfl rfl rfl
 clear hd ht hp hk
 generalize aE v=F at h57 hc
 generalize (t.words.any fun x=>decide (x=v.text))=A at h58 hc
 generalize cu (aO n) t v p=X at hc ⊢
 rcases hc with ⟨a,e⟩ | ⟨a,b,e⟩ | ⟨a,b,c,e⟩ | ⟨a,b,c,rfl,e⟩ | ⟨hk,c,rfl,e⟩ | ⟨hk,c,rfl,e⟩ | ⟨hk,c,rfl,e⟩ | ⟨hk,c,rfl,e⟩ | ⟨hk,c,rfl,hs,e⟩ | ⟨hk,c,rfl,hs,e⟩ | ⟨hk,c,rfl,e⟩ | ⟨hk,c,rfl,hz,e⟩ | ⟨hk,c,rfl,hz,rfl,e⟩ | ⟨hk,c,rfl,hz,rfl,e⟩ | ⟨hk,c,rfl,e⟩
 all_goals try (have ho:=PR e;clear e;rcases ho with ⟨o1,e⟩ | ⟨o1,o2,e⟩ | ⟨o1,o2,e⟩)
 all_goals
  try have hL:=h60 hk
  clear h60
  subst e
  obtain⟨k,m,M,s,w,e,fs⟩:=t
  obtain⟨vk,vi,vs,vt,vl,vf⟩:=v
  simp only[Val.text,Typ.words,Typ.kind,Val.kind,Typ.min,Typ.max,Typ.scale,Val.num,Val.scale] at *
  try subst hk
  try subst c
  try subst hs
  simp only[Vd,Vf,VG,Vo,U4] at *
  refine ae.intro Q24.2 (by simp[Q24]) ?_
  simp(disch:=try exact dI) only[Q24, *,push_cast,seval]
  try
   refine ab.pure h57 rfl ?_
   simp(disch:=try exact dI) only[*,push_cast,seval]
  try
   refine ab.pure h58 rfl ?_
   exact qsZ
  try
   refine ab.pure hL rfl ?_
   exact qsZ
theorem UG:UI:=by
 intro t v p hd ht h7 hv hp
 exact Rq 0 t v p hd ht hp (.inl h7) fun h=>absurd h (by omega)
theorem UZ (t:Typ)(v:Val)(p:List UInt8)(hd:rH 2 v)(ht:eK 2 t)(h9:t.kind=9)(hsc:∀ g∈t.fields,g.typ.kind<=7)(htf:t.fields.length<=900000000000)(hv:v.ok)(hp:p.length<=1000):ae Tryz.prog aq 24 [t.pv,v.pv,.str p] (.list ((aO 2 t v p).map Mis.pv)):=
 Rq 1 t v p hd ht (by omega) (.inr h9) fun _=>IY UG t v p hd ht hsc htf hv hp
theorem Em (t:Typ)(v:Val)(hsc:1<=t.kind/\t.kind<=7)(hd:dep 1 v)(ht:eK 1 t)(hv:v.ok):ae Tryz.prog aq 37 [t.pv,v.pv] (.bool (aO 1 t v []).isEmpty):=by
 have h56:=Er t v [] false [] _ (jK 1 0 v hd) ht hsc.2 hv (by simp) ⟨by simp,by simp⟩ rfl
 have e:=FC (aO 1 t v []) []
 generalize gz false [] (aO 1 t v [])=S at *
 obtain⟨Sd,Sl⟩:=S
 simp only at e
 have e2:(aO 1 t v []).isEmpty=!Sd:=by rw[e,Bool.not_not]
 rw[e2]
 obtain⟨k,m,M,s,w,e,fs⟩:=t
 obtain⟨vk,vi,vs,vt,vl,vf⟩:=v
 simp only[kj,Vd,Vf,Vo] at h56
 refine ae.intro Q37.2 (by simp[Q37]) ?_
 simp(disch:=try exact dI) only[Q37,Vd,Vf,push_cast,seval]
 refine ab.lentK h56 [4,2] rfl qsZ qsZ ?_
 exact qsZ
theorem TL (t:Typ)(v:Val)(p:List UInt8)(hsc:1<=t.kind/\t.kind<=7)(hd:dep 1 v)(ht:eK 1 t)(hv:v.ok)(hp:p.length<=2000):ae Tryz.prog aq 24 [t.pv,v.pv,.str p] (.list ((aO 1 t v p).map Mis.pv)):=
 UG t v p (jK 1 0 v hd) ht hsc.2 hv hp
