/- A part. -/
import Derived.Test.YtbaaokocnegdoaaGreatDoorEnVZ3
import Derived.Shelf.SlGeneric
import Derived.Shelf.SlSortCmp.WholeK
import Derived.Ground.SlsfProg
import Derived.Test.YtbaaokocnegdoaaGreatDoorProg
import Derived.WalkKit
import Derived.WalkMore
import Derived.Deep.Draws
set_option linter.unusedVariables false
set_option linter.unusedSimpArgs false
set_option maxHeartbeats 16000000
set_option maxRecDepth 100000
open List renaming map_nil->Vo,take_zero->V8,getElem?_eq_getElem->Vg,length_take->Vs,mem_map->Vy,mem_of_getElem?->Vk,getElem?_map->Vu,map_append->VI,length_map->Vv,take_of_length_le->VC
open Int renaming lt_irrefl->VH
open Option renaming map_none->WK,getD_none->V9,isSome_none->V4,map_some->Vl,getD_some->VW,isSome_some->V6
namespace Go.Proofs.YtbaaokocnegdoaaGreatDoor
open Go Go.Ab
attribute [local irreducible] vc
theorem Qh {n:Nat}(h:n<16):List.drop n ((48:UInt8)::List.take n [49,50,51,52,53,54,55,56,57,97,98,99,100,101,102])=[hx n]:=by
 have hc:n=0\/n=1\/n=2\/n=3\/n=4\/n=5\/n=6\/n=7\/n=8\/n=9\/n=10\/n=11\/n=12\/n=13\/n=14\/n=15:=by omega
 rcases hc with rfl | rfl | rfl | rfl | rfl | rfl | rfl | rfl | rfl | rfl | rfl | rfl | rfl | rfl | rfl | rfl<;>rfl
theorem Qi (c:UInt8):ae Tryz.prog aq 104 [.int .u8 (c.toNat:Int)] (.str [hx (c.toNat / 16),hx (c.toNat % 16)]):=by
 have hcl:=c.toNat_lt
 obtain⟨q,hqN⟩:∃ q,q=c.toNat / 16:=⟨_,rfl⟩
 obtain⟨m,hmN⟩:∃ m,m=c.toNat % 16:=⟨_,rfl⟩
 rw[<- hqN,<- hmN]
 have hq:((c.toNat:Int) / 16)=(q:Int):=by omega
 have hm:((c.toNat:Int) % 16)=(m:Int):=by omega
 have hxq:=Qh (n:=q) (by omega)
 have hxm:=Qh (n:=m) (by omega)
 have hq16:q<16:=by omega
 have hm16:m<16:=by omega
 have t1:((q:Int)+1).toNat=q+1:=by omega
 have t2:((m:Int)+1).toNat=m+1:=by omega
 refine ae.intro Us.2 (by simp[Us]) ?_
 simp(disch:=try exact dI) only[Us,hq,hm,hxq,hxm,t1,t2,Int.toNat_natCast,List.cons_append,List.nil_append,push_cast,seval]
theorem SU {n:Int}(h:-719162<=n/\n<=2932896):ae Tryz.prog aq 105 [.int .i64 n] (.bool true):=by
 have h1:=h.1
 have h2:=h.2
 refine ae.intro Ur.2 (by simp[Ur]) ?_
 simp(disch:=try exact dI) only[Ur,h1,h2,push_cast,seval]
theorem Eo {t:Typ}{x:Val}(hk:1<=t.kind/\t.kind<=7)(h:FitS t x)(hl:x.text.length<=2000):dep 1 x:=by
 have hv:=K9 hk h
 rw[<- hv]
 exact kr (by simp only;omega)
theorem QW {t:Typ}{x:Val}{tx:List UInt8}(h:TxtD t x tx)(hl:x.text.length<=2000)(ht:eK 1 t)(hv:x.ok):ae Tryz.prog aq 55 [t.pv,x.pv] (.tup [.str tx,.int .i64 0]):=by
 have hf:=(ga h hl).2.2
 have hk:1<=t.kind/\t.kind<=7:=by
  cases h with
  | bool _=>simp only[Typ.kind];omega
  | num _ hk _ _ _=>simp only[Typ.kind];omega
  | text _=>simp only[Typ.kind];omega
  | octs _=>simp only[Typ.kind];omega
  | day _ _ _ _ _ _=>simp only[Typ.kind];omega
  | time _ _ _ _ _ _ _ _ _ _ _ _ _ _=>simp only[Typ.kind];omega
 have hA:=TL t x [] hk (Eo hk hf hl) ht hv (by simp)
 rw[pm hk hf,Vo] at hA
 have hs:=GL t.kind
 rw[xP hk] at hs
 have h1:=hf.kd
 have h2:=hf.fm
 clear hf ht hk hv
 cases h with
 | @bool m M s w e f x hf=>
   obtain⟨k,n,sc,tx,l,fs⟩:=x
   simp only[Val.kind,Typ.kind] at h1
   subst h1
   have hn:n=0\/n=1:=by
    simp[aE] at h2
    exact h2.1
   simp only[Vd,Vf,Typ.kind,Val.num] at hA hs ⊢
   unfold gR eF
   refine ae.intro Q55.2 (by simp[Q55]) ?_
   simp(disch:=try exact dI) only[Q55,push_cast,seval]
   refine ab.pure hs rfl ?_
   refine zgZ ?_
   refine ab.pure hA rfl ?_
   rcases hn with rfl | rfl
   ·simp(disch:=try exact dI) only[VH,push_cast,seval]
   ·simp(disch:=try exact dI) only[VH,push_cast,seval]
 | @num k m M s w e f x sc hk hf hs' hN=>
   have hi:=SR x.num sc
   rw[decide_eq_true hN] at hi
   have ht:=Ln hN
   obtain⟨vk,n,xs,tx,l,fs⟩:=x
   simp only[Val.kind,Typ.kind,Val.num,Val.scale] at *
   subst h1 hs'
   simp only[Vd,Vf] at hA hs ⊢
   generalize iX n sc=X at *
   refine ae.intro Q55.2 (by simp[Q55]) ?_
   rcases hk with rfl | rfl
   ·simp(disch:=try exact dI) only[Q55,push_cast,seval]
    refine ab.pure hs rfl ?_
    refine zgZ ?_
    refine ab.pure hA rfl ?_
    simp(disch:=try exact dI) only[VH,push_cast,seval]
    refine ab.pure hi rfl ?_
    refine zgZ ?_
    refine ab.pure ht rfl ?_
    exact qsZ
   ·simp(disch:=try exact dI) only[Q55,push_cast,seval]
    refine ab.pure hs rfl ?_
    refine zgZ ?_
    refine ab.pure hA rfl ?_
    simp(disch:=try exact dI) only[VH,push_cast,seval]
    refine ab.pure hi rfl ?_
    refine zgZ ?_
    refine ab.pure ht rfl ?_
    exact qsZ
 | @text m M s w e f x hf=>
   obtain⟨vk,n,xs,tx,l,fs⟩:=x
   simp only[Val.kind,Typ.kind] at *
   subst h1
   simp only[Vd,Vf,Val.text] at hA hs ⊢
   refine ae.intro Q55.2 (by simp[Q55]) ?_
   simp(disch:=try exact dI) only[Q55,push_cast,seval]
   refine ab.pure hs rfl ?_
   refine zgZ ?_
   refine ab.pure hA rfl ?_
   simp(disch:=try exact dI) only[VH,push_cast,seval]
 | @octs m M s w e f x hf=>
   obtain⟨vk,n,xs,tx,l,fs⟩:=x
   simp only[Val.kind,Typ.kind,Val.text] at *
   subst h1
   simp only[Vd,Vf] at hA hs ⊢
   refine ae.intro Q55.2 (by simp[Q55]) ?_
   simp(disch:=try exact dI) only[Q55,push_cast,seval]
   refine ab.pure hs rfl ?_
   refine zgZ ?_
   refine ab.pure hA rfl ?_
   simp(disch:=try exact dI) only[VH,push_cast,seval]
   refine ap ([]) (fun i:Nat=>[(7,.pv (.str (nl (tx.take i)))),(8,.pv (.int .i64 (i:Int)))]) (fun _=>[]) (fun i=>i<=tx.length) (fun i=>tx.length - i) (0) ?_;intro e0 σ0 n0 h0;simp(disch:=try exact dI) only[push_cast,seval] at h0;obtain⟨rfl,rfl,rfl⟩:=h0;refine⟨?_,?_,?_⟩
   ·simp(disch:=try exact dI) only[V8,nl,push_cast,seval]
   ·omega
   rintro i hi
   by_cases hlt:i<tx.length
   ·obtain⟨c,hc⟩:∃ c,tx[i]? = some c:=⟨_,Vg hlt⟩
    have hltI:(i:Int)<(tx.length:Int):=by omega
    have hh:=Qi c
    have hsn:nl (tx.take (i+1))=nl (tx.take i)++[hx (c.toNat / 16),hx (c.toNat % 16)]:=by rw[aD hc,pd]
    have hll:=kF (tx.take i)
    rw[Vs] at hll
    generalize nl (tx.take i)=T at *
    generalize hx (c.toNat / 16)=y1 at *
    generalize hx (c.toNat % 16)=y2 at *
    simp(disch:=try exact dI) only[hltI,hc,am,push_cast,seval]
    refine ab.pure hh rfl ?_
    refine zgZ ?_
    exact⟨i+1,aI (by simp(disch:=try exact dI) only[hsn,push_cast,seval]),by omega,by omega⟩
   ·obtain rfl:i=tx.length:=by omega
    rw[List.take_length]
    simp(disch:=try exact dI) only[VH,push_cast,seval]
 | @day m M s w e f x y mo d hf hD hn=>
   have ht:=B0 hD
   have hb:=cq hD
   obtain⟨vk,n,xs,tx,l,fs⟩:=x
   simp only[Val.kind,Typ.kind,Val.num] at *
   subst h1
   rw[<- hn] at ht
   have hi:=SU (n:=n) (by omega)
   simp only[Vd,Vf] at hA hs ⊢
   generalize cD y mo d=X at *
   refine ae.intro Q55.2 (by simp[Q55]) ?_
   simp(disch:=try exact dI) only[Q55,push_cast,seval]
   refine ab.pure hs rfl ?_
   refine zgZ ?_
   refine ab.pure hA rfl ?_
   simp(disch:=try exact dI) only[VH,push_cast,seval]
   refine ab.pure hi rfl ?_
   refine zgZ ?_
   refine ab.pure ht rfl ?_
   exact qsZ
 | @time m M s w e f x y mo d h mi se ms hf hD e1 e2 e3 e4 hn=>
   have ht:=GW hD e1 e2 e3 e4
   have hb:=cq hD
   obtain⟨vk,n,xs,tx,l,fs⟩:=x
   simp only[Val.kind,Typ.kind,Val.num] at *
   subst h1
   rw[<- hn] at ht
   have c1:¬ n < -62135596800000:=by omega
   have c2:¬ (253402300800000:Int)<=n:=by omega
   simp only[Vd,Vf] at hA hs ⊢
   generalize ij (cD y mo d) h mi se ms=X at *
   refine ae.intro Q55.2 (by simp[Q55]) ?_
   simp(disch:=try exact dI) only[Q55,push_cast,seval]
   refine ab.pure hs rfl ?_
   refine zgZ ?_
   refine ab.pure hA rfl ?_
   simp(disch:=try exact dI) only[VH,c1,c2,push_cast,seval]
   refine ab.pure ht rfl ?_
   exact qsZ
def FTd (v:Val)(g:TFd)(tx:List UInt8):Prop:=(v.fields.find? (aN g.name)=none/\tx=[]/\g.need=2)\/∃ y,v.fields.find? (aN g.name)=some y/\FitS g.typ y.value/\TxtD g.typ y.value tx/\y.value.text.length<=2000/\y.value.ok
def fU (T:TFd->List UInt8)(sep:UInt8)(v:Val)(g:TFd):Cel:=match v.fields.find? (aN g.name) with
 | some _=>(T g,decide (T g=[])||spc sep (T g))
 | none=>([],false)
theorem kN {T:TFd->List UInt8}{sep:UInt8}{v:Val}{g:TFd}(h:FTd v g (T g)):(fU T sep v g).1.length<=5000:=by
 unfold fU
 rcases h with ⟨h1,_⟩ | ⟨y,h1,_,h3,h4,_⟩
 ·rw[h1];simp
 ·rw[h1];exact (ga h3 h4).2.1
theorem Pe {n:Int}(hs:eh n=true)(t:List UInt8)(ht:t.length<=70000):ae Tryz.prog aq 53 [.str t,.int .i64 n] (.bool (spc n.toNat.toUInt8 t)):=by
 obtain⟨h1,h2⟩:=nG hs
 rw[<- fR]
 have hb:eh ((n.toNat.toUInt8).toNat:Int)=true:=by rw[<- h1];exact hs
 have hn:n<128:=by unfold eh at hs;simp at hs;omega
 have h128:(n.toNat.toUInt8).toNat<128:=by omega
 have:=pU hb (j4 t [34,13,10,n.toNat.toUInt8] (by omega) (by simp) (by simp) (by simp;simpa using h128))
 rw[<- h1] at this
 exact this
theorem wK (c:Cel):iZ c = .agg [.str c.1,.bool c.2]:=rfl
theorem zJ {m:Int}{T:Nat}{p:PV}(t:Typ)(hR:RTy t)(v:Val)(hv:v.ok)(h9:v.kind=9)(n:Int)(hs:eh n=true)(h17:ae Tryz.prog aq 17 [t.pv,.int .i64 n] (.int .i64 0))(h37:ae Tryz.prog aq 37 [t.pv,v.pv] (.bool true))(hvl:v.fields.length<=1000000)(Tx:TFd->List UInt8)(hT:∀ g∈t.fields,FTd v g (Tx g)) :
  ae Tryz.prog (kv m T p) 20 [t.pv,.int .i64 n,v.pv] (.tup [.str (cw true n.toNat.toUInt8 (t.fields.map (fU Tx n.toNat.toUInt8 v))).1,.int .i64 (cw true n.toNat.toUInt8 (t.fields.map (fU Tx n.toNat.toUInt8 v))).2]):=by
 have h17:=xG (m:=m) (T:=T) (p:=p) h17
 have h37:=xG (m:=m) (T:=T) (p:=p) h37
 have h52:=fun name=>xG (m:=m) (T:=T) (p:=p) (pn v name hv h9 hvl)
 have h26:=xM (m:=m) (T:=T) (p:=p) (M0 m (t.fields.map (fU Tx n.toNat.toUInt8 v)) n (fun c hc=>by
  obtain⟨g,hg,rfl⟩:=Vy.1 hc
  have:=kN (sep:=n.toNat.toUInt8) (hT g hg)
  omega))
 rw[hs] at h26
 have h53:=fun (g:TFd) (hg:g∈t.fields) (htl:(Tx g).length<=5000)=>xG (m:=m) (T:=T) (p:=p) (Pe hs (Tx g) (by omega))
 have hfl:=hR.fld
 have hl6:=hR.len
 clear hR
 obtain⟨k,a,b,c,w,e,f⟩:=t
 obtain⟨vk,vn,vs,vt,vl,vf⟩:=v
 simp only[Typ.fields,Val.fields,Val.kind] at *
 subst h9
 generalize n.toNat.toUInt8=sep at *
 obtain⟨R,hRr⟩:∃ R,R=f.map (fU Tx sep (.mk 9 vn vs vt vl vf)):=⟨_,rfl⟩
 rw[<- hRr] at h26 ⊢
 simp only[Vd,Vf] at h17 h37 h52 ⊢
 refine ae.intro Q20.2 (by simp[Q20]) ?_
 simp(disch:=try exact dI) only[Q20,push_cast,seval]
 refine ab.pure h17 rfl ?_
 refine zgZ ?_
 refine ab.pure h37 rfl ?_
 refine zgZ ?_
 refine ap ([(9,0,66,2)]) (fun i:Nat=>[(9,.olist 1 2 ((R.take i).map iZ)),(30,.pv (.int .i64 (i:Int)))]) (fun _=>[]) (fun i=>i<=f.length) (fun i=>f.length - i) (0) ?_;intro e0 σ0 n0 h0;simp(disch:=try exact dI) only[push_cast,seval] at h0;obtain⟨rfl,rfl,rfl⟩:=h0;refine⟨?_,?_,?_⟩
 ·simp(disch:=try exact dI) only[V8,Vo,push_cast,seval]
 ·omega
 rintro i hi
 by_cases hlt:i<f.length
 ·have hltI:(i:Int)<(f.length:Int):=by omega
  obtain⟨g,hg⟩:∃ g,f[i]? = some g:=⟨_,Vg hlt⟩
  have hgm:=Vk hg
  have hRi:R[i]? = some (fU Tx sep (.mk 9 vn vs vt vl vf) g):=by rw[hRr,Vu,hg];rfl
  have hsn:(R.take (i+1)).map iZ=(R.take i).map iZ++[iZ (fU Tx sep (.mk 9 vn vs vt vl vf) g)]:=by rw[aD hRi,VI];rfl
  have hRl:((R.take i).map iZ).length<=64:=by rw[Vv,Vs];omega
  have h52g:=h52 g.name
  have hTg:=hT g hgm
  have hty:=(hfl g hgm).ty
  have hkd:=(hfl g hgm).kd
  unfold fU at hsn
  simp only[Val.fields] at hsn
  unfold FTd at hTg
  simp only[Val.fields] at hTg
  clear hT h52
  rcases hTg with ⟨h1,h2,_⟩ | ⟨⟨yn,⟨yk,yi,ys,yt,yl,yf⟩⟩,h1,hf1,hf2,hf3,hf4⟩
  ·rw[h1] at h52g hsn
   simp only[vlR,WK,V9,V4,aK,Vf,Vo] at h52g
   rw[wK] at hsn
   generalize (R.take i).map iZ=K at *
   obtain⟨n',nm',nd',⟨k',m',M',s',w',e',f'⟩,d'⟩:=g
   simp only[TFd.name] at h52g
   simp(disch:=try exact dI) only[hltI,hg,Vl,U7,Vd,ag,push_cast,seval]
   refine ab.pure h52g rfl ?_
   refine zgZ ?_
   exact⟨i+1,aI (by simp(disch:=try exact dI) only[hsn,push_cast,seval]),by omega,by omega⟩
  ·rw[h1] at h52g hsn
   simp only[vlR,Vl,VW,V6,Fld.value,Vf] at h52g
   have h16:=xG (m:=m) (T:=T) (p:=p) (QX hf2 hf3 hty hkd)
   have h53g:=h53 g hgm (ga hf2 hf3).2.1
   simp only[wK] at hsn
   simp only[Fld.value,Vf] at h16
   generalize (R.take i).map iZ=K at *
   generalize Tx g=tx at *
   generalize spc sep tx=B at *
   obtain⟨n',nm',nd',⟨k',m',M',s',w',e',f'⟩,d'⟩:=g
   simp only[TFd.name,TFd.typ,Vd] at h52g h16
   simp(disch:=try exact dI) only[hltI,hg,Vl,U7,Vd,ag,push_cast,seval]
   refine ab.pure h52g rfl ?_
   refine zgZ ?_
   refine ab.pure h16 rfl ?_
   by_cases h0:tx=[]
   ·subst h0
    rw[show (decide (([]:List UInt8)=[])||B)=true from by simp] at hsn
    refine zgZ ?_
    exact⟨i+1,aI (by simp(disch:=try exact dI) only[hsn,push_cast,seval]),by omega,by omega⟩
   ·rw[show (decide (tx=[])||B)=B from by simp[h0]] at hsn
    simp(disch:=try exact dI) only[h0,push_cast,seval]
    refine ab.pure h53g rfl ?_
    refine zgZ ?_
    exact⟨i+1,aI (by simp(disch:=try exact dI) only[hsn,push_cast,seval]),by omega,by omega⟩
 ·obtain rfl:i=f.length:=by omega
  rw[show R.take f.length=R from VC (by rw[hRr,Vv];exact Nat.le_refl _)]
  generalize (cw true sep R).1=J1 at *
  generalize (cw true sep R).2=J2 at *
  simp(disch:=try exact dI) only[VH,push_cast,seval]
  refine ab.pure h26 rfl ?_
  exact qsZ
theorem Nl (v:Val)(name:List UInt8)(hv:v.ok)(hl:v.fields.length<=1000000):ae Tryz.prog aq 54 [v.pv,.str name] (vlR ((v.fields.find? (aN name)).map Fld.value)):=by
 obtain⟨k,n,s,t,l,f⟩:=v
 simp only[Val.fields] at hl ⊢
 obtain⟨R,hR⟩:∃ R,R=(f.find? (aN name)).map Fld.value:=⟨_,rfl⟩
 rw[<- hR]
 refine ae.intro Q54.2 (by simp[Q54]) ?_
 simp(disch:=try exact dI) only[Q54,Vf,push_cast,seval]
 refine ap ([]) (fun i:Nat=>[(6,.pv (.int .i64 (i:Int)))]) (fun _=>[]) (fun i=>i<=f.length/\R=((f.drop i).find? (aN name)).map Fld.value) (fun i=>f.length - i) (0) ?_;intro e0 σ0 n0 h0;simp(disch:=try exact dI) only[push_cast,seval] at h0;obtain⟨rfl,rfl,rfl⟩:=h0;refine⟨?_,?_,?_⟩
 ·exact qsZ
 ·exact⟨by omega,by simpa using hR⟩
 rintro i ⟨hi,hr⟩
 by_cases hlt:i<f.length
 ·have hltI:(i:Int)<(f.length:Int):=by omega
  obtain⟨y,hy⟩:∃ y,f[i]? = some y:=⟨_,Vg hlt⟩
  rw[bD hy,List.find?_cons] at hr
  obtain⟨nm,⟨yk,yn,ys,yt,yl,yf⟩⟩:=y
  by_cases hn:nm=name
  ·rw[show aN name (Fld.mk nm (Val.mk yk yn ys yt yl yf))=true from decide_eq_true hn] at hr
   simp only[Vl,Fld.value] at hr
   subst hr
   simp(disch:=try exact dI) only[hltI,hy,Vl,U3,Vf,ag,hn,vlR,VW,V6,push_cast,seval]
  ·rw[show aN name (Fld.mk nm (Val.mk yk yn ys yt yl yf))=false from decide_eq_false hn] at hr
   simp(disch:=try exact dI) only[hltI,hy,Vl,U3,Vf,ag,hn,push_cast,seval]
   exact⟨i+1,aI qsZ,⟨by omega,hr⟩,by omega⟩
 ·obtain rfl:i=f.length:=by omega
  rw[List.drop_length,List.find?_nil] at hr
  subst hr
  simp(disch:=try exact dI) only[VH,vlR,WK,V9,V4,aK,Vf,Vo,push_cast,seval]
theorem zG (t:Typ)(hR:RTy t)(v:Val)(hv:v.ok)(h9:v.kind=9)(n:Int)(hs:eh n=true)(h18:ae Tryz.prog aq 18 [t.pv,.int .i64 n] (.int .i64 0))(h24:ae Tryz.prog aq 24 [t.pv,v.pv,.str []] (.list []))(hvl:v.fields.length<=1000000)(Tx:TFd->List UInt8)(hT:∀ g∈t.fields,FTd v g (Tx g)) :
  ae Tryz.prog aq 21 [t.pv,.int .i64 n,v.pv] (.tup [.str (cw true n.toNat.toUInt8 (t.fields.map (fU Tx n.toNat.toUInt8 v))).1,.int .i64 (cw true n.toNat.toUInt8 (t.fields.map (fU Tx n.toNat.toUInt8 v))).2]):=by
 have h54:=fun name=>Nl v name hv hvl
 have h27:=Qd ((t.fields.map (fU Tx n.toNat.toUInt8 v)).map Ay) n n.toNat.toUInt8 (fun h=>(nG h).1) (fun z hz=>by
  obtain⟨c,hc,rfl⟩:=Vy.1 hz
  obtain⟨g,hg,rfl⟩:=Vy.1 hc
  have:=kN (sep:=n.toNat.toUInt8) (hT g hg)
  simp only[Ay]
  omega)
 rw[IJ,hs] at h27
 have hse:=(nG hs).1
 have h56:=fun (g:TFd) (htl:(Tx g).length<=5000)=>pT (Tx g) n.toNat.toUInt8 (by omega)
 rw[<- hse] at h56
 have hfl:=hR.fld
 have hl6:=hR.len
 clear hR hse
 obtain⟨k,a,b,c,w,e,f⟩:=t
 obtain⟨vk,vn,vs,vt,vl,vf⟩:=v
 simp only[Typ.fields,Val.fields,Val.kind] at *
 subst h9
 generalize n.toNat.toUInt8=sep at *
 obtain⟨R,hRr⟩:∃ R,R=f.map (fU Tx sep (.mk 9 vn vs vt vl vf)):=⟨_,rfl⟩
 rw[<- hRr] at h27 ⊢
 simp only[Vd,Vf] at h18 h24 h54 ⊢
 have hZ:(R.map Ay).map rR=R.map fun c=>rR (Ay c):=by rw[List.map_map];rfl
 rw[hZ] at h27
 have hone:∀ c:Cel,rR (Ay c) = .agg [.str c.1,.bool c.2,.int .i64 0]:=fun c=>rfl
 refine ae.intro Q21.2 (by simp[Q21]) ?_
 simp(disch:=try exact dI) only[Q21,push_cast,seval]
 refine ab.pure h18 rfl ?_
 refine zgZ ?_
 refine ab.pure h24 rfl ?_
 simp(disch:=try exact dI) only[VH,push_cast,seval]
 refine ap ([(9,0,101,3)]) (fun i:Nat=>[(9,.olist 2 3 ((R.take i).map fun c=>rR (Ay c))),(10,.pv (.int .i64 (i:Int)))]) (fun _=>[]) (fun i=>i<=f.length) (fun i=>f.length - i) (0) ?_;intro e0 σ0 n0 h0;simp(disch:=try exact dI) only[push_cast,seval] at h0;obtain⟨rfl,rfl,rfl⟩:=h0;refine⟨?_,?_,?_⟩
 ·simp(disch:=try exact dI) only[V8,Vo,push_cast,seval]
 ·omega
 rintro i hi
 by_cases hlt:i<f.length
 ·have hltI:(i:Int)<(f.length:Int):=by omega
  obtain⟨g,hg⟩:∃ g,f[i]? = some g:=⟨_,Vg hlt⟩
  have hgm:=Vk hg
  have hRi:R[i]? = some (fU Tx sep (.mk 9 vn vs vt vl vf) g):=by rw[hRr,Vu,hg];rfl
  have hsn:(R.take (i+1)).map (fun c=>rR (Ay c))=(R.take i).map (fun c=>rR (Ay c))++[rR (Ay (fU Tx sep (.mk 9 vn vs vt vl vf) g))]:=by rw[aD hRi,VI];rfl
  have hRl:((R.take i).map fun c=>rR (Ay c)).length<=64:=by rw[Vv,Vs];omega
  have h54g:=h54 g.name
  have hTg:=hT g hgm
  have hty:=(hfl g hgm).ty
  rw[hone] at hsn
  unfold fU at hsn
  simp only[Val.fields] at hsn
  unfold FTd at hTg
  simp only[Val.fields] at hTg
  clear hT h54
  rcases hTg with ⟨h1,h2,_⟩ | ⟨⟨yn,⟨yk,yi,ys,yt,yl,yf⟩⟩,h1,hf1,hf2,hf3,hf4⟩
  ·rw[h1] at h54g hsn
   simp only[vlR,WK,V9,V4,aK,Vf,Vo] at h54g
   simp only at hsn
   generalize (R.take i).map (fun c=>rR (Ay c))=K at *
   obtain⟨n',nm',nd',⟨k',m',M',s',w',e',f'⟩,d'⟩:=g
   simp only[TFd.name] at h54g
   simp(disch:=try exact dI) only[hltI,hg,Vl,U7,Vd,ag,push_cast,seval]
   refine ak h54g rfl ?_
   refine zgZ ?_
   exact⟨i+1,aI (by simp(disch:=try exact dI) only[hsn,push_cast,seval]),by omega,by omega⟩
  ·rw[h1] at h54g hsn
   simp only[vlR,Vl,VW,V6,Fld.value,Vf] at h54g
   have h55:=QW hf2 hf3 hty hf4
   have h56g:=h56 g (ga hf2 hf3).2.1
   simp only at hsn
   simp only[Fld.value,Vf] at h55
   generalize (R.take i).map (fun c=>rR (Ay c))=K at *
   generalize Tx g=tx at *
   generalize spc sep tx=B at *
   obtain⟨n',nm',nd',⟨k',m',M',s',w',e',f'⟩,d'⟩:=g
   simp only[TFd.name,TFd.typ,Vd] at h54g h55
   simp(disch:=try exact dI) only[hltI,hg,Vl,U7,Vd,ag,push_cast,seval]
   refine ak h54g rfl ?_
   simp(disch:=try exact dI) only[hltI,hg,Vl,U7,Vd,ag,push_cast,seval]
   refine ak h55 rfl ?_
   by_cases h0:tx=[]
   ·subst h0
    rw[show (decide (([]:List UInt8)=[])||B)=true from by simp] at hsn
    refine zgZ ?_
    exact⟨i+1,aI (by simp(disch:=try exact dI) only[hsn,push_cast,seval]),by omega,by omega⟩
   ·rw[show (decide (tx=[])||B)=B from by simp[h0]] at hsn
    simp(disch:=try exact dI) only[h0,push_cast,seval]
    refine ab.pure h56g rfl ?_
    refine zgZ ?_
    exact⟨i+1,aI (by simp(disch:=try exact dI) only[hsn,push_cast,seval]),by omega,by omega⟩
 ·obtain rfl:i=f.length:=by omega
  rw[show R.take f.length=R from VC (by rw[hRr,Vv];exact Nat.le_refl _)]
  generalize (cw true sep R).1=J1 at *
  generalize (cw true sep R).2=J2 at *
  simp(disch:=try exact dI) only[VH,push_cast,seval]
  refine ab.pure h27 rfl ?_
  exact qsZ
end Go.Proofs.YtbaaokocnegdoaaGreatDoor
/-
 DERIVED: THE SHELF's CONTRACTS AT THIS DUMP,IN PLAIN WORDS (tools/lay-plain.mjs out of 'TryzC9.lean',which tools/lay-shelf.mjs wrote): THE SAME DECLARATIONS UNDER THE SAME NAMES: 'import','namespace','open','def','theorem' AND NOTHING ELSE: no command of the shelf's: FOR A HAND-IN. Each laying: the table of numbers ('.._ren') and one theorem,a field a fact of the dump's own or the kernel's comparison;each gr: ONE APPLICATION.
-/
namespace Go.Proofs
open Go.Shelf
def Tryz.sortF_ren:Go.Shelf.Ren:=⟨fun | 6=>112 | 15=>163 | 14=>162 | 28=>218 | 29=>219 | 20=>210 | 21=>211 | 22=>212 | 23=>213 | 24=>214 | 25=>215 | 26=>216 | 27=>217 | 46=>255 | 47=>256 | 48=>257 | 49=>258 | 50=>259 | 57=>291 | n=>n,fun | 22=>29 | 24=>83 | 25=>166 | 3=>3 | 39=>93 | 0=>0 | 53=>210 | 55=>213 | 4=>4 | 46=>233 | 45=>232 | 50=>176 | 5=>5 | 9=>9 | 66=>265 | 70=>147 | 76=>291 | 77=>192 | n=>n,fun | n=>n⟩
theorem Va:Go.Proofs.SlLaysF0.n6 Tryz.prog Tryz.sortF_ren:={
 mixed:=by kernel_rfl
 f6:=⟨Tryz.f112.name,by decide,Tryz.func112.trans (congrArg some (by kernel_rfl))⟩
 f14:=⟨Tryz.f162.name,by decide,Tryz.func162.trans (congrArg some (by kernel_rfl))⟩
 f15:=Tryz.func163.trans (congrArg some (by kernel_rfl))
 f20:=⟨Tryz.f210.name,by decide,Tryz.func210.trans (congrArg some (by kernel_rfl))⟩
 f21:=⟨Tryz.f211.name,by decide,Tryz.func211.trans (congrArg some (by kernel_rfl))⟩
 f22:=⟨Tryz.f212.name,by decide,Tryz.func212.trans (congrArg some (by kernel_rfl))⟩
 f23:=⟨Tryz.f213.name,by decide,Tryz.func213.trans (congrArg some (by kernel_rfl))⟩
 f24:=⟨Tryz.f214.name,by decide,Tryz.func214.trans (congrArg some (by kernel_rfl))⟩
 f25:=⟨Tryz.f215.name,by decide,Tryz.func215.trans (congrArg some (by kernel_rfl))⟩
 f26:=⟨Tryz.f216.name,by decide,Tryz.func216.trans (congrArg some (by kernel_rfl))⟩
 f27:=⟨Tryz.f217.name,by decide,Tryz.func217.trans (congrArg some (by kernel_rfl))⟩
 f28:=Tryz.func218.trans (congrArg some (by kernel_rfl))
 f29:=Tryz.func219.trans (congrArg some (by kernel_rfl))
 f46:=⟨Tryz.f255.name,by decide,Tryz.func255.trans (congrArg some (by kernel_rfl))⟩
 f47:=Tryz.func256.trans (congrArg some (by kernel_rfl))
 f48:=Tryz.func257.trans (congrArg some (by kernel_rfl))
 f49:=⟨Tryz.f258.name,by decide,Tryz.func258.trans (congrArg some (by kernel_rfl))⟩
 f50:=⟨Tryz.f259.name,by decide,Tryz.func259.trans (congrArg some (by kernel_rfl))⟩
 f57:=⟨Tryz.f291.name,by decide,Tryz.func291.trans (congrArg some (by kernel_rfl))⟩
 t0:=Tryz.underlying0
 a0:=Tryz.isAgg0
 z0:=Tryz.sizeOf0
 v0:=Tryz.zeroValue0
 t3:=Tryz.underlying3
 a3:=Tryz.isAgg3
 z3:=Tryz.sizeOf3
 v3:=Tryz.zeroValue3
 t4:=Tryz.underlying4
 a4:=Tryz.isAgg4
 z4:=Tryz.sizeOf4
 v4:=Tryz.zeroValue4
 t5:=Tryz.underlying5
 a5:=Tryz.isAgg5
 z5:=Tryz.sizeOf5
 v5:=Tryz.zeroValue5
 t9:=Tryz.underlying9
 a9:=Tryz.isAgg9
 z9:=Tryz.sizeOf9
 v9:=Tryz.zeroValue9
 t22:=Tryz.underlying29
 a22:=Tryz.isAgg29
 z22:=Tryz.sizeOf29
 v22:=Tryz.zeroValue29
 t25:=Tryz.underlying166
 a25:=Tryz.isAgg166
 z25:=Tryz.sizeOf166
 v25:=Tryz.zeroValue166
 t39:=Tryz.underlying93
 a39:=Tryz.isAgg93
 z39:=Tryz.sizeOf93
 v39:=Tryz.zeroValue93
 t45:=Tryz.underlying232
 a45:=Tryz.isAgg232
 z45:=Tryz.sizeOf232
 v45:=Tryz.zeroValue232
 t46:=Tryz.underlying233
 a46:=Tryz.isAgg233
 z46:=Tryz.sizeOf233
 v46:=Tryz.zeroValue233
 t50:=Tryz.underlying176
 a50:=Tryz.isAgg176
 z50:=Tryz.sizeOf176
 v50:=Tryz.zeroValue176
 t53:=Tryz.underlying210
 a53:=Tryz.isAgg210
 z53:=Tryz.sizeOf210
 v53:=Tryz.zeroValue210
 t55:=Tryz.underlying213
 a55:=Tryz.isAgg213
 z55:=Tryz.sizeOf213
 v55:=Tryz.zeroValue213
 t66:=Tryz.underlying265
 a66:=Tryz.isAgg265
 z66:=Tryz.sizeOf265
 v66:=Tryz.zeroValue265
 t70:=Tryz.underlying147
 a70:=Tryz.isAgg147
 z70:=Tryz.sizeOf147
 v70:=Tryz.zeroValue147
 t76:=Tryz.underlying291
 a76:=Tryz.isAgg291
 z76:=Tryz.sizeOf291
 v76:=Tryz.zeroValue291
 t77:=Tryz.underlying192
 a77:=Tryz.isAgg192
 z77:=Tryz.sizeOf192
 v77:=Tryz.zeroValue192 }
end Go.Proofs
namespace Go.Proofs.YtbaaokocnegdoaaGreatDoor
open Go Go.Proofs Go.Shelf Go.RowKit Go.Lib Go.Sort
structure FldC where
 name:ByteArray
 c1:Value
 c2:Value
 c3:Value
 c4:Value
 c5:Value
 c6:Value
 one:c1.oneCell'=true/\c2.oneCell'=true/\c3.oneCell'=true/\c4.oneCell'=true/\c5.oneCell'=true/\c6.oneCell'=true
instance:Inhabited FldC:=⟨⟨.empty,.int .i64 0,.int .i64 0,.int .i64 0,.int .i64 0,.int .i64 0,.int .i64 0,by decide⟩⟩
def AR (x:FldC):List Value:=[.string x.name,x.c1,x.c2,x.c3,x.c4,x.c5,x.c6]
def Tz (x y:FldC):Int:=Lib.compareBytes x.name.data.toList y.name.data.toList
theorem Af (x y:FldC)(W:World):Calls Tryz.prog 113 #[.agg (AR x).toArray,.agg (AR y).toArray] W fun e w'=>e = .returned (.int .i64 (Tz x y))/\∃ q os',w'=grow (W.drewN q) os':=by
 obtain⟨s,a1,a2,a3,a4,a5,a6,ha⟩:=x
 obtain⟨t,b1,b2,b3,b4,b5,b6,hb⟩:=y
 have hcon:=fun W'=>Vb s t W'
 simp only[AR,Tz]
 generalize Lib.compareBytes s.data.toList t.data.toList=r at hcon ⊢
 go_enter Tryz.func113,Tryz.ntmps113
 go_wp2_with (go_at_call 114;refine (hcon _).mono ?_;rintro e w' ⟨rfl,rfl⟩)
 go_ret
 exact⟨rfl,0,_,by rw[alloc_eq_grow,alloc_eq_grow,grow_grow];rfl⟩
