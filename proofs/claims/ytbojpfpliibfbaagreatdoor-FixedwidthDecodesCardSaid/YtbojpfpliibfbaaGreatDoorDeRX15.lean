/- A part of the proof. -/
import Derived.Test.YtbojpfpliibfbaaGreatDoorDeRX12
set_option maxRecDepth 100000
set_option linter.unusedVariables false
set_option linter.unusedSimpArgs false
namespace Go.Proofs.YtbojpfpliibfbaaGreatDoor
open Go Go.Ab
attribute [local irreducible] vc
def PM (g:TFd):Val:=match g.dflt with
 | []=>eM
 | x::_=>x
def PO (g:TFd):Val:=if aY g.typ=true then qB g.typ.kind q0 else if g.need=2 then eM else if g.need=3 then PM g else eM
def sd (g:TFd)(s:List UInt8):Val:=if cm g.typ.kind s=[] then PO g else if (rdR g.typ (cm g.typ.kind s)).2=0\/6<=g.typ.kind then qB g.typ.kind (rdR g.typ (cm g.typ.kind s)).1 else eM
theorem fS:Nz cl eM.pv:=by
 unfold cl eM
 rw[Val.pv_mk]
 repeat' constructor
theorem Oz (g:TFd)(s:List UInt8):Nz (DT g s) (sd g s).pv:=by
 unfold DT sd
 split
 ·unfold uK PO
  split
  ·exact mT _ q0
  ·split
   ·exact fS
   ·split
    ·unfold DS PM
     cases g.dflt with
     | nil=>exact fS
     | cons x r=>exact .refl _
    ·exact fS
 ·unfold vPQ
  split
  ·exact mT _ _
  ·exact fS
theorem jK:eM.ok:=by
 unfold eM
 rw[Val.ok_mk]
 exact⟨⟨by omega,by omega⟩,⟨by omega,by omega⟩,⟨by omega,by omega⟩,by simp,by simp,by simp,by simp,by simp⟩
theorem pJ {t:Typ}{r:Qt×Int}(h:ii t r=0):r.2=0/\uc t r.1=true:=by
 unfold ii at h
 by_cases h0:r.2=0
 ·rw[if_pos h0] at h
  cases hf:uc t r.1 with
  | true=>exact⟨h0,rfl⟩
  | false=>rw[hf,if_neg (by decide)] at h;cases h
 ·rw[if_neg h0] at h;exact absurd h h0
theorem Oy {g:TFd}{s:List UInt8}(h:CellOk g)(hs:s.length<=1000000)(he:nP g s=0):(sd g s).ok:=by
 unfold sd
 unfold nP at he
 by_cases h0:cm g.typ.kind s=[]
 ·rw[if_pos h0]
  unfold PO
  split
  ·exact mS h.kd oL
  ·split
   ·exact jK
   ·split
    ·rename_i h3
     obtain⟨x,r,hx,hxo,_⟩:=h.dft h3
     unfold PM;rw[hx];exact hxo
    ·exact jK
 ·rw[if_neg h0] at he ⊢
  have hz:=pJ he
  rw[if_pos (.inl hz.1)]
  exact mS h.kd (sZ _ _ _ (Nat.le_trans (qP _ _) hs) hz.1)
def iE (x:TFd×List UInt8):Fld:=.mk x.1.name (sd x.1 x.2)
theorem Dz {P:PV}{V:Val}(h:Nz P V.pv)(hP:∃ cs,P = .agg cs):NzL P.cells V.pv.cells:=by
 obtain⟨cs,rfl⟩:=hP
 obtain⟨k,n,s,t,l,f⟩:=V
 rw[Val.pv_mk] at h ⊢
 cases h with
 | refl=>exact NzL.refl _
 | agg _ _ h=>exact h
theorem QR (x:TFd×List UInt8):Nz (fC x) (iE x).pv:=by
 have h:=Dz (Oz x.1 x.2) (by obtain⟨a,b,c,d,p,q,h,_⟩:=se x.1 x.2;exact⟨_,h⟩)
 unfold fC iE
 rw[Fld.pv_mk]
 exact .agg _ _ (.cons _ _ _ _ (.refl _) h)
theorem Be:∀ Z:List (TFd×List UInt8),NzL (Z.map fC) ((Z.map iE).map Fld.pv)
 | []=>.nil
 | x::r=>.cons _ _ _ _ (QR x) (Be r)
theorem kZ {v:List Nat}:∀ (Z:List (TFd×List UInt8)) (i:Nat),(fP v Z i).2=0->fP v Z i=(0,0)/\∀ x∈Z,nP x.1 x.2=0
 | [],_,_=>⟨rfl,fun x hx=>by cases hx⟩
 | x::r,i,h=>by
   rw[fP] at h ⊢
   by_cases h0:nP x.1 x.2=0
   ·rw[if_pos h0] at h ⊢
    obtain⟨h1,h2⟩:=kZ r (i+1) h
    exact⟨h1,fun y hy=>(List.mem_cons.1 hy).elim (fun e=>e▸h0) (h2 y)⟩
   ·rw[if_neg h0] at h;exact absurd h h0
theorem xw {T:Nat}{p:PV}(t:Typ)(ht:t.ok)(w:List Int)(line:List UInt8)(he:¬ n7 t w=0):ak Tryz.prog (d6 T p) 17 [t.pv,.list (bX w),.str line] (.tup [cl,.int .i64 0,.int .i64 (n7 t w)]):=by
 have h12:=toE (T:=T) (p:=p) (zC t ht w)
 generalize n7 t w=z at *
 obtain⟨k,m,M,s,wd,e,f⟩:=t
 simp only[Typ.pv_mk,cl] at h12 ⊢
 refine ak.intro Q17.2 (by simp[Q17]) ?_
 simp(disch:=try exact dI) only[Q17,push_cast,seval]
 refine ab.pure h12 rfl ?_
 simp(disch:=try exact dI) only[he,push_cast,seval]
theorem xr (t:Typ)(ht:t.ok)(w:List Int)(line:List UInt8)(he:¬ n7 t w=0):ak Tryz.prog ap 18 [t.pv,.list (bX w),.str line] (.tup [cl,.int .i64 0,.int .i64 (n7 t w)]):=by
 have h13:=DK t ht w
 generalize n7 t w=z at *
 obtain⟨k,m,M,s,wd,e,f⟩:=t
 simp only[Typ.pv_mk,cl] at h13 ⊢
 refine ak.intro Q18.2 (by simp[Q18]) ?_
 simp(disch:=try exact dI) only[Q18,push_cast,seval]
 refine ab.pure h13 rfl ?_
 simp(disch:=try exact dI) only[he,push_cast,seval]
theorem nG {n:Nat}{s:Int}(h:¬ (n:Int)=s):¬ f9 n s=0:=by
 unfold f9
 by_cases h1:(n:Int)<s
 ·rw[if_pos h1];decide
 ·rw[if_neg h1,if_pos (by omega)];decide
theorem xu {T:Nat}{p:PV}(t:Typ)(ht:t.ok)(w:List Int)(line:List UInt8)(he:n7 t w=0)(hb:Is w=false)(hw:w.length<=64)(hs0:0<=jY w)(hll:line.length<=1000000)(hne:¬ (line.length:Int)=jY w):ak Tryz.prog (d6 T p) 17 [t.pv,.list (bX w),.str line] (.tup [cl,.int .i64 (min (line.length:Int) (jY w)),.int .i64 (f9 line.length (jY w))]):=by
 have h12:=toE (T:=T) (p:=p) (zC t ht w)
 have h50:=toE (T:=T) (p:=p) (qH w (by omega))
 rw[hb,if_neg (by decide),if_neg (by decide)] at h50
 have h51:=toE (T:=T) (p:=p) (Cb line (jY w))
 rw[he] at h12
 have hz:=nG hne
 have hm:min (jY w) (line.length:Int)=min (line.length:Int) (jY w):=Int.min_comm _ _
 generalize f9 line.length (jY w)=z at *
 generalize jY w=S at *
 obtain⟨k,m,M,s,wd,e,f⟩:=t
 simp only[Typ.pv_mk,cl] at h12 ⊢
 refine ak.intro Q17.2 (by simp[Q17]) ?_
 simp(maxSteps:=9^7) (disch:=try exact dI) only[Q17,push_cast,seval]
 refine ab.pure h12 rfl ?_
 simp(maxSteps:=9^7) (disch:=try exact dI) only[push_cast,seval]
 refine ab.pure h50 rfl ?_
 simp(maxSteps:=9^7) (disch:=try exact dI) only[push_cast,seval]
 refine ab.pure h51 rfl ?_
 simp(maxSteps:=9^7) (disch:=try exact dI) only[hz,hm,push_cast,seval]
theorem xp (t:Typ)(ht:t.ok)(v:List Nat)(line:List UInt8)(he:n7 t (v.map fun n:Nat=>(n:Int))=0)(hv:∀ x∈v,1<=x/\x<=4096)(hw:v.length<=64)(hll:line.length<=1000000)(hne:¬ line.length=v.sum)(hvs:v.sum<=1000000):ak Tryz.prog ap 18 [t.pv,.list (ct v),.str line] (.tup [cl,.int .i64 (min (line.length:Int) (v.sum:Nat)),.int .i64 (f9 line.length (v.sum:Nat))]):=by
 have h13:=DK t ht (v.map fun n:Nat=>(n:Int))
 rw[he,dU] at h13
 have h21:=sU line v hll hv (by omega)
 rw[if_neg hne] at h21
 have hz:=nG (n:=line.length) (s:=((v.sum:Nat):Int)) (by omega)
 have hps:∀ i,cE v i<=v.sum:=ni v
 generalize f9 line.length ((v.sum:Nat):Int)=z at *
 obtain⟨k,m,M,s,wd,e,f⟩:=t
 simp only[Typ.pv_mk,cl] at h13 ⊢
 refine ak.intro Q18.2 (by simp[Q18]) ?_
 simp(maxSteps:=9^7) (disch:=try exact dI) only[Q18,push_cast,seval]
 refine ab.pure h13 rfl ?_
 simp(maxSteps:=9^7) (disch:=try exact dI) only[push_cast,seval]
 refine am ([]) (fun i:Nat=>[(10,.pv (.int .i64 (cE v i:Int))),(11,.pv (.int .i64 (i:Int)))]) (fun _=>[]) (fun i=>i<=v.length) (fun i=>v.length - i) (0) ?_;intro e0 σ0 n0 h0;simp(maxSteps:=9^7) (disch:=try exact dI) only[push_cast,seval] at h0;obtain⟨rfl,rfl,rfl⟩:=h0;refine⟨?_,?_,?_⟩
 ·simp(maxSteps:=9^7) (disch:=try exact dI) only[eT,push_cast,seval]
 ·omega
 rintro i hi
 have hpi:=hps i
 by_cases hlt:i<v.length
 ·have hltI:(i:Int)<(v.length:Int):=by omega
  obtain⟨n,hn⟩:∃ n,v[i]? = some n:=⟨_,List.getElem?_eq_getElem hlt⟩
  have hx':=gK hn
  have hb:=hv n (List.mem_of_getElem? hn)
  have hstI:=ri hn
  have hp2:=hps (i+1)
  simp(maxSteps:=9^7) (disch:=try exact dI) only[aW,hltI,hx',push_cast,seval]
  exact⟨i+1,aI (by simp(maxSteps:=9^7) (disch:=try exact dI) only[hstI,push_cast,seval]),by omega,by omega⟩
 ·have hltI:¬ (i:Int)<(v.length:Int):=by omega
  obtain rfl:i=v.length:=by omega
  rw[tg]
  simp(maxSteps:=9^7) (disch:=try exact dI) only[aW,hltI,push_cast,seval]
  refine ab.pure h21 rfl ?_
  simp(maxSteps:=9^7) (disch:=try exact dI) only[hz,push_cast,seval]
theorem uU {f:List TFd}{line:List UInt8}{v:List Nat}(h:f.length=v.length):((cz f line v).map iE).map Fld.name=f.map TFd.name:=by
 have h1:((cz f line v).map iE).map Fld.name=((cz f line v).map Prod.fst).map TFd.name:=by
  rw[List.map_map,List.map_map];rfl
 rw[h1]
 congr 1
 unfold cz
 exact List.map_fst_zip (by rw[List.length_map,List.length_range];omega)
theorem gq {f:List TFd}{line:List UInt8}{v:List Nat}{x:TFd×List UInt8}(hx:x∈cz f line v):x.1∈f/\x.2.length<=line.length:=by
 unfold cz at hx
 obtain⟨a,b⟩:=x
 obtain⟨h1,h2⟩:=List.of_mem_zip hx
 obtain⟨i,_,rfl⟩:=List.mem_map.1 h2
 exact⟨h1,by unfold bJ;rw[List.length_drop,List.length_take];omega⟩
structure DecOk (t:Typ)(w:List Int)(line:List UInt8)(v:List Nat):Prop where
 rep:n7 t w=0
 nat:w=v.map fun n:Nat=>(n:Int)
 sum:line.length=v.sum
 len:t.fields.length=v.length
 bnd:∀ x∈v,1<=x/\x<=4096
 cel:∀ x∈cz t.fields line v,nP x.1 x.2=0
theorem m9 {t:Typ}{w:List Int}(ht:t.ok)(he:n7 t w=0):Is w=false/\w.length=t.fields.length/\w.length<=64/\lX t=0/\dW t=true:=by
 obtain⟨hfe,hlen,hrl⟩:=zD he
 obtain⟨h0,hfl⟩:=kT hfe
 have hst:=sT t.fields w 0 hlen.symm hrl
 have h64:t.fields.length<=64:=by
  have ho:=jU (j5 h0)
  obtain⟨k,m,M,s,wd,e,f⟩:=t
  exact AC ho
 refine⟨?_,hlen,by omega,h0,hfl⟩
 unfold Is
 rw[decide_eq_false (by omega),Bool.false_or,List.any_eq_false]
 intro x hx
 obtain⟨i,hi,hx⟩:=List.getElem_of_mem hx
 have hw:w[i]? = some x:=by rw[List.getElem?_eq_getElem hi,hx]
 obtain⟨g,hg⟩:∃ g,t.fields[i]? = some g:=⟨_,List.getElem?_eq_getElem (by omega)⟩
 obtain⟨h1,h2,_⟩:=vz (hst i g x hg hw)
 unfold DW
 simp;omega
theorem mI {t:Typ}{w:List Int}{line:List UInt8}{v:List Nat}(ht:t.ok)(h0:lX t=0)(hfl:dW t=true)(hlen:t.fields.length=v.length)(hll:line.length<=1000000)(hc:∀ x∈cz t.fields line v,nP x.1 x.2=0) :
  (∀ x∈(cz t.fields line v).map iE,x.ok)/\qp ((cz t.fields line v).map iE):=by
 have hco:=r9 h0 ht hfl
 have hok:∀ g∈t.fields,g.ok:=by
  obtain⟨k,m,M,s,wd,e,f⟩:=t
  rw[Typ.ok_mk] at ht
  exact ht.2.2.2.2.2.2.2.2.2
 refine⟨fun y hy=>?_,?_⟩
 ·obtain⟨x,hx,rfl⟩:=List.mem_map.1 hy
  obtain⟨m1,m2⟩:=gq hx
  have hg:=hok x.1 m1
  unfold iE
  rw[Fld.ok_mk]
  refine⟨?_,Oy (hco x.1 m1) (by omega) (hc x hx)⟩
  obtain⟨⟨n,nm,nd,ty,d⟩,s⟩:=x
  simp only at hg
  rw[TFd.ok_mk] at hg
  exact hg.2.1
 ·unfold qp
  rw[uU hlen]
  exact pE h0
theorem GV {T:Nat}{p:PV}(t:Typ)(ht:t.ok)(w:List Int)(line:List UInt8)(hll:line.length<=1000000):∃ (P:PV) (V:Val) (n e:Int),
  ak Tryz.prog (d6 T p) 17 [t.pv,.list (bX w),.str line] (.tup [P,.int .i64 n,.int .i64 e])/\ak Tryz.prog ap 18 [t.pv,.list (bX w),.str line] (.tup [P,.int .i64 n,.int .i64 e])/\Nz P V.pv/\V.ok /\
  (P=cl\/∃ L,P=zL L)/\(e=0->n=0/\∃ v,DecOk t w line v/\V=oB ((cz t.fields line v).map iE)):=by
 by_cases he:n7 t w=0
 ·obtain⟨hb,hlen,h64,h0,hfl⟩:=m9 ht he
  have hba:w.any DW=false:=by
   unfold Is at hb
   rw[Bool.or_eq_false_iff] at hb;exact hb.2
  obtain⟨v,hw,hs,hv⟩:=Ke hba
  have hvl:t.fields.length=v.length:=by rw[<- hlen,hw,List.length_map]
  have hs0:=qO w fun x hx=>fk hba hx
  by_cases hne:line.length=v.sum
  ·have hco:=r9 h0 ht hfl
   have h12:=zC t ht w
   have h13:=DK t ht w
   have h50:=qH w (by omega)
   rw[hb,if_neg (by decide),if_neg (by decide),hs] at h50
   have hF:fP v (cz t.fields line v) 0=(0,0)->∀ x∈cz t.fields line v,nP x.1 x.2=0:=fun h=>(kZ _ 0 (by rw[h])).2
   have hZl:=mQ (line:=line) hvl
   have hfs:=fun h=>mI (w:=w) ht h0 hfl hvl hll (hF h)
   have hl65:((cz t.fields line v).map iE).length<=65000:=by rw[List.length_map];omega
   have hr17:fP v (cz t.fields line v) 0=(0,0)->ak Tryz.prog ap 55 [.list ((cz t.fields line v).map fC)] (zL ((oB ((cz t.fields line v).map iE)).fields.map Fld.pv)):=fun h=>by
    obtain⟨f1,f2⟩:=hfs h
    have h55:=ER _ hl65 f1 f2
    unfold oB at h55 ⊢
    rw[Val.pv_mk] at h55
    exact h55.nz (.cons _ _ _ _ (.list _ _ (Be _)) .nil)
   have hr18:fP v (cz t.fields line v) 0=(0,0)->ak Tryz.prog ap 59 [.list ((cz t.fields line v).map fC)] (.agg [.int .i64 9,.int .i64 0,.int .i64 0,.str [],.nils,.list ((oB ((cz t.fields line v).map iE)).fields.map Fld.pv)]):=fun h=>by
    obtain⟨f1,f2⟩:=hfs h
    have h59:=EQ _ hl65 f1 f2
    rw[<- sV f2] at h59
    exact h59.nz (.cons _ _ _ _ (.list _ _ (Be _)) .nil)
   rw[he,hw,dU] at h12 h13
   rw[hw,dU] at h50
   have hi:bX w=ct v:=by rw[hw,dU]
   have hf64:t.fields.length<=64:=by omega
   have h17:ak Tryz.prog (d6 T p) 17 [t.pv,.list (ct v),.str line] (.tup [if (fP v (cz t.fields line v) 0).2=0 then zL ((oB ((cz t.fields line v).map iE)).fields.map Fld.pv) else cl,.int .i64 (fP v (cz t.fields line v) 0).1,.int .i64 (fP v (cz t.fields line v) 0).2]):=by
    obtain⟨k,m,M,sc,wd,el,f⟩:=t
    exact xv k m M sc wd el f v line _ h12 h50 hne hll hvl hf64 hv hco hr17
   have h18:ak Tryz.prog ap 18 [t.pv,.list (ct v),.str line] (.tup [if (fP v (cz t.fields line v) 0).2=0 then zL ((oB ((cz t.fields line v).map iE)).fields.map Fld.pv) else cl,.int .i64 (fP v (cz t.fields line v) 0).1,.int .i64 (fP v (cz t.fields line v) 0).2]):=by
    obtain⟨k,m,M,sc,wd,el,f⟩:=t
    exact xq k m M sc wd el f v line _ h13 hne hll hvl hf64 hv hco hr18
   rw[<- hi] at h17 h18
   by_cases hz:(fP v (cz t.fields line v) 0).2=0
   ·rw[if_pos hz] at h17 h18
    obtain⟨e1,e2⟩:=kZ _ 0 hz
    obtain⟨f1,f2⟩:=hfs e1
    have hVo:(oB ((cz t.fields line v).map iE)).ok:=by
     unfold oB
     rw[Val.ok_mk]
     refine⟨⟨by omega,by omega⟩,⟨by omega,by omega⟩,⟨by omega,by omega⟩,by simp,by simp,by simp,?_,fun x hx=>f1 x (List.mem_filter.1 ((js _).mem_iff.1 hx)).1⟩
     have h5:((cz t.fields line v).map iE).length<=64:=by rw[List.length_map];omega
     have:=List.length_filter_le bR ((cz t.fields line v).map iE)
     rw[fV];omega
    refine⟨_,oB ((cz t.fields line v).map iE),_,_,h17,h18,?_,hVo,.inr ⟨_,rfl⟩,fun _=>⟨by rw[e1],v,⟨he,hw,hne,hvl,hv,e2⟩,rfl⟩⟩
    unfold oB zL
    rw[Val.pv_mk]
    exact .refl _
   ·rw[if_neg hz] at h17 h18
    exact⟨cl,eM,_,_,h17,h18,fS,jK,.inl rfl,fun h=>absurd h hz⟩
  ·have h17:=xu (T:=T) (p:=p) t ht w line he hb h64 hs0.1 hll (by omega)
   have h18:=xp t ht v line (by rw[<- hw];exact he) hv (by omega) hll hne (by omega)
   rw[<- dU,<- hw,<- hs] at h18
   exact⟨cl,eM,_,_,h17,h18,fS,jK,.inl rfl,fun h=>absurd h (nG (by omega))⟩
 ·exact⟨cl,eM,0,n7 t w,xw t ht w line he,xr t ht w line he,fS,jK,.inl rfl,fun h=>absurd h he⟩
structure FitS (t:Typ)(v:Val):Prop where
 kd:v.kind=t.kind
 fm:aD v=true
 nm:t.kind=2\/t.kind=6\/t.kind=7\/t.kind=3->t.min<=v.num/\v.num<=t.max
 sc:t.kind=3->v.scale=t.scale
 wd:t.kind=4->0<t.words.length->(t.words.any fun x=>decide (x=v.text))=true
 tx:t.kind=5\/t.kind=4/\t.words.length=0->t.min<=(v.text.length:Int)/\(v.text.length:Int)<=t.max
theorem tn {a b n:Int}{p:List UInt8}(h:a<=n/\n<=b):jx a b p n=[]:=if_neg (by omega)
theorem GG {t:Typ}{v:Val}(hk:1<=t.kind/\t.kind<=7)(h:FitS t v)(p:List UInt8):bD 1 t v p=[]:=by
 have a:¬ (t.kind<1\/10<t.kind\/¬ v.kind=t.kind):=fun q=>q.elim (by omega) fun q=>q.elim (by omega) fun q=>q h.kd
 rw[cu]
 have e:t.kind=1\/(t.kind=2\/t.kind=6\/t.kind=7)\/t.kind=3\/t.kind=4\/t.kind=5:=by omega
 rcases e with e | e | e | e | e
 ·exact ml a h.fm e
 ·rw[eW a h.fm e];exact tn (h.nm (by omega))
 ·rw[kB a h.fm e (h.sc e)];exact tn (h.nm (by omega))
 ·by_cases hw:0<t.words.length
  ·exact mj a h.fm e hw (h.wd e hw)
  ·rw[dS a h.fm (.inl e) (fun _=>by omega)];exact tn (h.tx (.inr ⟨e,by omega⟩))
 ·rw[dS a h.fm (.inr e) (fun q=>by omega)];exact tn (h.tx (.inl e))
theorem FT {t:Typ}{v:Val}{p:List UInt8}(hk:1<=t.kind/\t.kind<=7)(h:bD 1 t v p=[]):FitS t v:=by
 obtain⟨h1,h2⟩:=GH h
 have a:¬ (t.kind<1\/10<t.kind\/¬ v.kind=t.kind):=fun q=>q.elim (by omega) fun q=>q.elim (by omega) fun q=>q h1
 rw[cu] at h
 have hsc:t.kind=3->v.scale=t.scale:=fun e=>Decidable.byContradiction fun hs=>by rw[kA a h2 e hs] at h;cases h
 refine⟨h1,h2,fun e=>?_,hsc,fun e hw=>?_,fun e=>?_⟩
 ·by_cases e3:t.kind=3
  ·rw[kB a h2 e3 (hsc e3)] at h;exact rt h
  ·rw[eW a h2 (by omega)] at h;exact rt h
 ·cases ha:(t.words.any fun x=>decide (x=v.text)) with
  | true=>rfl
  | false=>rw[iV a h2 e hw ha] at h;cases h
 ·rw[dS a h2 (by omega) (fun q=>by omega)] at h;exact rt h
theorem CT {x:Val}(h:CU x=0):aS x=false/\bj x=true/\bd x=0:=by
 unfold CU at h
 have hs:aR 0 (1,x)=0:=by
  cases hl:lvl x with
  | zero=>
    have:=ep x
    rw[hl] at this;exact absurd this (by unfold cW;exact id)
  | succ n=>
    rw[hl,cJ,jn] at h
    by_cases h0:aR 0 (1,x)=0
    ·exact h0
    ·rw[if_neg h0] at h;exact absurd h h0
 unfold aR at hs
 rw[if_neg (by decide),if_neg (show ¬ (8:Int)<((1:Int),x).1 from (by decide:¬ (8:Int)<1))] at hs
 simp only at hs
 cases hn:aS x with
 | true=>rw[hn,if_pos rfl] at hs;cases hs
 | false=>
   rw[hn,if_neg (by decide)] at hs
   by_cases hk:x.kind<1\/10<x.kind
   ·rw[if_pos hk] at hs;cases hs
   ·rw[if_neg hk] at hs
    cases hu:bj x with
    | false=>rw[hu,if_pos rfl] at hs;cases hs
    | true=>rw[hu,if_neg (by decide)] at hs;exact⟨rfl,rfl,hs⟩
theorem Fr {n a b:Int}(h:ek n a b=0):a<=n/\n<=b:=by
 unfold ek at h
 by_cases c:n<a\/b<n
 ·rw[if_pos c] at h;cases h
 ·omega
theorem xH {x:Val}(hk:1<=x.kind/\x.kind<=7)(h:CU x=0):aD x=true:=by
 obtain⟨_,hu,hr⟩:=CT h
 obtain⟨k,n,s,t,l,f⟩:=x
 simp only[Val.kind] at hk
 have e:k=1\/k=2\/k=3\/k=4\/k=5\/k=6\/k=7:=by omega
 rcases e with rfl | rfl | rfl | rfl | rfl | rfl | rfl
 ·have:=Fr (show ek n 0 1=0 from hr)
  simp[bj] at hu
  simp[aD,hu];omega
 ·simp[bj] at hu;simp[aD,hu]
 ·simp[bj] at hu;simp[aD,hu]
 ·simp[bj] at hu
  have hv:Lib.validD t=true:=by
   have hr':(if cU t.length 1024 5=0 then (if Lib.validD t=true then (0:Int) else 16) else cU t.length 1024 5)=0:=hr
   by_cases c:cU t.length 1024 5=0
   ·rw[if_pos c] at hr'
    cases hv:Lib.validD t with
    | true=>rfl
    | false=>rw[hv,if_neg (by decide)] at hr';cases hr'
   ·rw[if_neg c] at hr';exact absurd hr' c
  simp[aD,hu,hv]
 ·simp[bj] at hu;simp[aD,hu]
 ·simp[bj] at hu;simp[aD,hu]
 ·simp[bj] at hu;simp[aD,hu]
theorem Lw {n:Nat}{t:Typ}{x:Val}(hk:1<=t.kind/\t.kind<=7)(h:accB n t x=true):FitS t x:=by
 unfold accB at h
 rw[Bool.and_eq_true,decide_eq_true_eq] at h
 obtain⟨hc,hh⟩:=h
 cases n with
 | zero=>rw[bk] at hh;cases hh
 | succ n=>
   rw[bk,Bool.and_eq_true,decide_eq_true_eq] at hh
   obtain⟨h1,h2⟩:=hh
   have hfm:=xH (by omega) hc
   unfold pA at h2
   refine⟨h1,hfm,fun e=>?_,fun e=>?_,fun e hw=>?_,fun e=>?_⟩
   ·rw[if_pos e,LY,Bool.and_eq_true,inB,Bool.and_eq_true,decide_eq_true_eq,decide_eq_true_eq] at h2
    exact h2.1
   ·rw[if_pos (by omega),LY,Bool.and_eq_true,decide_eq_true_eq] at h2
    exact h2.2
   ·rw[if_neg (by omega),if_pos e,MF,if_pos hw] at h2
    exact h2
   ·by_cases e5:t.kind=5
    ·rw[if_neg (by omega),if_neg (by omega),if_pos e5,inB,Bool.and_eq_true,decide_eq_true_eq,decide_eq_true_eq] at h2
     exact h2
    ·have e4:t.kind=4/\t.words.length=0:=by omega
     rw[if_neg (by omega),if_pos e4.1,MF,if_neg (by omega),inB,Bool.and_eq_true,decide_eq_true_eq,decide_eq_true_eq] at h2
     exact h2
theorem Im:∀ a b:List UInt8,decide (Lib.compareBytes a b<0)=bf a b
 | [],[]=>rfl
 | [],_::_=>rfl
 | _::_,[]=>rfl
 | a::r,b::q=>by
   have ih:decide (Lib.compareBytes r q<0)=Op.bytesLess r q:=Im r q
   show _=Op.bytesLess (a::r) (b::q)
   rw[Lib.compareBytes,Op.bytesLess]
   by_cases h1:a<b
   ·simp[h1]
   ·by_cases h2:b<a
    ·have:¬ a=b:=by rintro rfl;exact (UInt8.lt_irrefl a) h2
     simp[h1,h2,this]
    ·have h3:a=b:=UInt8.le_antisymm (UInt8.not_lt.1 h2) (UInt8.not_lt.1 h1)
     simp[h1,h2,h3,ih]
theorem kr {v:Val}(h:1<=v.kind):aS v=false:=by
 obtain⟨k,n,s,t,l,f⟩:=v
 simp only[Val.kind] at h
 show (decide (k=0)&&(decide (n=0)&&(decide (s=0)&&(decide (t=[])&&(decide (l.length=0)&&decide (f.length=0))))))=false
 rw[decide_eq_false (by omega),Bool.false_and]
theorem Cv {t:Typ}(ho:dr t=0)(hk:1<=t.kind/\t.kind<=7)(h:aY t=true):FitS t (qB t.kind q0):=by
 obtain⟨k,m,M,s,w,e,f⟩:=t
 have hb:=(bc ho).2.1
 replace h:(if k=4/\0<w.length then w.any fun x=>decide (x=[]) else (decide (k=4)||decide (k=5))&&decide (m=0))=true:=h
 simp only[Typ.kind] at hk
 have hk45:k=4\/k=5:=by
  by_cases hc:k=4/\0<w.length
  ·exact .inl hc.1
  ·rw[if_neg hc] at h
   simp at h;exact h.1
 have hf:aD (qB k q0)=true:=by
  rcases hk45 with rfl | rfl
  ·simp[aD,qB,q0,Lib.validD_nil]
  ·simp[aD,qB,q0]
 refine⟨rfl,hf,fun q=>?_,fun q=>?_,fun q hw=>?_,fun q=>?_⟩
 ·simp only[Typ.kind] at q;omega
 ·simp only[Typ.kind] at q;omega
 ·simp only[Typ.kind] at q
  simp only[Typ.words] at hw
  rw[if_pos ⟨q,hw⟩] at h
  exact h
 ·simp only[Typ.kind,Typ.words] at q
  have hc:¬ (k=4/\0<w.length):=by omega
  rw[if_neg hc] at h
  have hm:m=0:=by simp at h;exact h.2
  unfold cf at hb
  rw[if_neg hc] at hb
  by_cases hx:(2<=k/\k<=8)/\(M<m\/m<loK k\/hiK k<M)
  ·rw[if_pos hx] at hb;exact absurd hb (by decide)
  ·have h1:¬ (M<m\/m<loK k\/hiK k<M):=fun hh=>hx ⟨by omega,hh⟩
   show m<=((0:Nat):Int)/\((0:Nat):Int)<=M
   omega
theorem G2 {g:TFd}{s:List UInt8}(h:CellOk g)(hd:g.need=3->∀ x r,g.dflt=x::r->FitS g.typ x)(he:nP g s=0):(aS (sd g s)=true/\g.need=2)\/(aS (sd g s)=false/\FitS g.typ (sd g s)):=by
 have hk1:=h.kd.1
 unfold nP at he
 unfold sd
 by_cases h0:cm g.typ.kind s=[]
 ·rw[if_pos h0] at he ⊢
  unfold xT at he
  unfold PO
  cases hb:aY g.typ with
  | true=>
    rw[if_pos rfl]
    exact .inr ⟨kr hk1,Cv h.own h.kd hb⟩
  | false=>
    rw[if_neg (by decide)]
    by_cases h2:g.need=2
    ·rw[if_pos h2];exact .inl ⟨rfl,h2⟩
    ·rw[if_neg h2]
     by_cases h3:g.need=3
     ·rw[if_pos h3]
      obtain⟨x,r,hx,_,_⟩:=h.dft h3
      have hf:=hd h3 x r hx
      unfold PM
      rw[hx]
      exact .inr ⟨kr (by rw[hf.kd];exact hk1),hf⟩
     ·rw[hb,if_neg (fun q=>q.elim (by decide) fun q=>q.elim h2 h3)] at he
      cases he
 ·rw[if_neg h0] at he ⊢
  obtain⟨hz,hf⟩:=pJ he
  rw[if_pos (.inl hz)]
  refine .inr ⟨kr hk1,FT (p:=[]) h.kd ?_⟩
  unfold uc at hf
  exact List.isEmpty_iff.1 hf
theorem A7 {f:List TFd}(h:(f.map TFd.name).Nodup){a b:TFd}(ha:a∈f)(hb:b∈f)(e:a.name=b.name):a=b:=by
 obtain⟨i,hi,rfl⟩:=List.getElem_of_mem ha
 obtain⟨j,hj,rfl⟩:=List.getElem_of_mem hb
 have hp:=List.pairwise_iff_getElem.1 h
 rcases Nat.lt_trichotomy i j with c | c | c
 ·have:=hp i j (by simpa using hi) (by simpa using hj) c
  simp only[List.getElem_map] at this
  exact absurd e this
 ·subst c;rfl
 ·have:=hp j i (by simpa using hj) (by simpa using hi) c
  simp only[List.getElem_map] at this
  exact absurd e.symm this
theorem ME {S:List Fld}(h:S.Pairwise ltF):upB S=true:=by
 unfold upB
 rw[ic]
 intro j hj
 unfold upJ
 have h1:j<S.length:=by omega
 have h2:j+1<S.length:=by omega
 rw[List.getElem?_eq_getElem h1,List.getElem?_eq_getElem h2]
 simp only[Option.map_some,Option.getD_some]
 rw[<- Im]
 exact decide_eq_true (List.pairwise_iff_getElem.1 h j (j+1) h1 h2 (by omega))
theorem K3 {t:Typ}{w:List Int}{line:List UInt8}{v:List Nat}(ht:t.ok)(hll:line.length<=1000000)(h:DecOk t w line v):PK t (oB ((cz t.fields line v).map iE))=true:=by
 obtain⟨_,hlen,_,h0,hfl⟩:=m9 ht h.rep
 have hco:=r9 h0 ht hfl
 obtain⟨_,hnd⟩:=mI (w:=w) ht h0 hfl h.len hll h.cel
 have hnm:=pE h0
 obtain⟨h9,_,_⟩:=fy hfl
 have hdf:∀ g∈t.fields,g.need=3->∀ x r,g.dflt=x::r->FitS g.typ x:=fun g hg h3 x r hx=>by
  have hty:=j5 h0
  have hk:=(hco g hg).kd
  obtain⟨k,m,M,s,wd,e,f⟩:=t
  have hde:=(hty.2.2 (.inl h9) g hg).2 h9
  obtain⟨n',nm',nd',t',d'⟩:=g
  simp only[TFd.need,TFd.dflt] at h3 hx
  subst h3 hx
  replace hde:(decide ((3:Int)=3)&&!(accB 7 t' x))=false:=hde
  rw[decide_eq_true rfl,Bool.true_and] at hde
  have hacc:accB 7 t' x=true:=by simpa using hde
  exact Lw hk hacc
 have hcf:∀ x∈cz t.fields line v,(aS (sd x.1 x.2)=true/\x.1.need=2)\/(aS (sd x.1 x.2)=false/\FitS x.1.typ (sd x.1 x.2)):=fun x hx=>G2 (hco x.1 (gq hx).1) (hdf x.1 (gq hx).1) (h.cel x hx)
 obtain⟨l,hl⟩:∃ l,l=(cz t.fields line v).map iE:=⟨_,rfl⟩
 rw[<- hl] at hnd ⊢
 have hS:(srt (l.filter bR)).Pairwise ltF:=by rw[sV hnd];exact ee l hnd
 have hmem:∀ y,y∈srt (l.filter bR)↔y∈l/\bR y=true:=fun y=>by rw[(js _).mem_iff,List.mem_filter]
 have hel:∀ y∈l,∃ x∈cz t.fields line v,y=iE x:=fun y hy=>by
  rw[hl] at hy
  obtain⟨x,hx,e⟩:=List.mem_map.1 hy
  exact⟨x,hx,e.symm⟩
 unfold PK oB
 rw[List.isEmpty_iff,cu]
 have a:¬ (t.kind<1\/10<t.kind\/¬ (Val.mk 9 0 0 [] [] (srt (l.filter bR))).kind=t.kind):=fun q=>q.elim (by omega) fun q=>q.elim (by omega) fun q=>q (by rw[h9];rfl)
 have hfm:aD (Val.mk 9 0 0 [] [] (srt (l.filter bR)))=true:=by simp[aD,ME hS]
 rw[pg a hfm h9,ET,List.append_eq_nil_iff]
 refine⟨List.flatMap_eq_nil_iff.2 fun g hg=>?_,List.flatMap_eq_nil_iff.2 fun y hy=>?_⟩
 ·simp only[Val.fields]
  cases hfd:(srt (l.filter bR)).find? (aP g.name) with
  | some y=>
    have hy:=(hmem y).1 (List.mem_of_find?_eq_some hfd)
    have hyn:y.name=g.name:=by have q:=List.find?_some hfd;exact of_decide_eq_true q
    obtain⟨x,hx,rfl⟩:=hel y hy.1
    have hxg:x.1=g:=A7 hnm (gq hx).1 hg hyn
    rw[gd hfd]
    have hkf:bR (iE x)=!aS (sd x.1 x.2):=rfl
    rcases hcf x hx with ⟨q,_⟩ | ⟨_,q⟩
    ·rw[hkf,q] at hy;exact absurd hy.2 (by decide)
    ·rw[hxg] at q
     have hv:(iE x).value=sd g x.2:=by rw[<- hxg];rfl
     rw[hv]
     exact GG (hco g hg).kd q _
  | none=>
    obtain⟨i,hi,rfl⟩:=List.getElem_of_mem hg
    have hiv:i<v.length:=by rw[<- h.len];exact hi
    have hz:=qx (line:=line) (List.getElem?_eq_getElem hi) hiv
    have hx:=List.mem_of_getElem? hz
    rcases hcf _ hx with ⟨_,q⟩ | ⟨q,_⟩
    ·exact iI hfd q
    ·have hin:iE (t.fields[i],bJ line v i)∈srt (l.filter bR):=(hmem _).2 ⟨by rw[hl];exact List.mem_map_of_mem hx,by
      show (!aS (sd t.fields[i] (bJ line v i)))=true
      rw[q];rfl⟩
     have:=List.find?_eq_none.1 hfd _ hin
     exact absurd (decide_eq_true rfl:aP t.fields[i].name (iE (t.fields[i],bJ line v i))=true) this
 ·simp only[Val.fields] at hy
  obtain⟨x,hx,rfl⟩:=hel y ((hmem y).1 hy).1
  cases hfd:t.fields.find? (named (iE x).name) with
  | some z=>exact km hfd
  | none=>
    have:=List.find?_eq_none.1 hfd x.1 (gq hx).1
    exact absurd (decide_eq_true rfl:named (iE x).name x.1=true) this
def Qx (f:Nat)(ps:List PV):Option PV:=
 match f with
 | 17=>match ps with
   | [a,b,c]=>if eqP 8 a PL=true/\eqP 8 b My=true/\eqP 8 c Kq=true then some (.tup [N0,.int .i64 0,.int .i64 0]) else none
   | _=>none
 | f=>Qy f ps
theorem JX:∀ f ps r,Qx f ps=some r->ak Tryz.prog ap f ps r:=by
 intro f ps r h
 unfold Qx at h
 split at h
 ·split at h
  ·split at h
   ·rename_i hh
    cases h
    rw[pK _ _ _ hh.1,pK _ _ _ hh.2.1,pK _ _ _ hh.2.2]
    exact GU
   ·cases h
  ·cases h
 ·exact iy _ _ _ h
theorem SU:As (exF (HO.map gFn) Qx ap 5000 60) 11 []=some (.bool true):=by kernel_rfl
theorem Kv:ak Tryz.prog ap 11 [] (.bool true):=ak.of_ex (lU lW) JX SU
theorem wM (w:List Int)(n:Nat):(bX w).take n=bX (w.take n):=by simp[bX]
theorem Rd (w:List Int):ak Tryz.prog ap 10 [.list (bX w)] (.list (bX (w.take 70))):=by
 refine ak.intro Q10.2 (by simp[Q10]) ?_
 rw[<- wM]
 by_cases h:w.length<=70
 ·have hm:min (w.length:Int) 70=(w.length:Int):=by omega
  have e:(bX w).take 70=(bX w).take w.length:=by rw[List.take_of_length_le (by rw[aX];omega),List.take_of_length_le (by rw[aX];omega)]
  rw[e]
  simp(disch:=try exact dI) only[Q10,hm,aX,push_cast,seval]
 ·have hm:min (w.length:Int) 70=70:=by omega
  have hl:(70:Int)<=(w.length:Int):=by omega
  simp(disch:=try exact dI) only[Q10,hm,aX,push_cast,seval]
end Go.Proofs.YtbojpfpliibfbaaGreatDoor
