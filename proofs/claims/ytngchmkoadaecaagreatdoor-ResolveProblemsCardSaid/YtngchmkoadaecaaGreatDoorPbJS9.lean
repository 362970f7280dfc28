/- A part. -/
import Derived.Test.YtngchmkoadaecaaGreatDoorPbJS7
set_option linter.unusedVariables false
set_option linter.unusedSimpArgs false
set_option maxHeartbeats 16000000
set_option maxRecDepth 100000
open List renaming getElem?_eq_getElem->WT,mem_of_getElem?->WV,length_take->Xf,map_append->Xe
open Option renaming map_some->Xm,isSome_none->Yj,getD_some->XK,isSome_some->X8
namespace Go.Proofs.YtngchmkoadaecaaGreatDoor
open Go Go.Ab
attribute [local irreducible] vc
theorem JJ (w:List (List UInt8))(hw:w.length*16<=140737488351232):ap Tryz.prog aC 199 [.list (w.map PV.str)] (.list (w.map PV.str)):=by
 refine ap.intro TH.2 (by simp[TH]) ?_
 cases w with
 | nil=>
   simp(maxSteps:=9^7) (disch:=try exact dI) only[TH,push_cast,seval]
   intro b
   cases b<;>simp(maxSteps:=9^7) (disch:=try exact dI) only[push_cast,seval]
 | cons x r=>
   rw[List.length_cons] at hw
   simp(maxSteps:=9^7) (disch:=try exact dI) only[TH,push_cast,seval]
theorem uX (n:Int)(nm:List UInt8)(nd k m M s:Int)(w:List (List UInt8))(e:List Typ)(f:List TFd)(d:List Val)(hT:ap Tryz.prog aC 198 [(Typ.mk k m M s w e f).pv] (Typ.mk k m M s w e f).pv)(hd:d.length*88<=140737488351232)(hv:∀ v∈d,v.ok) :
  ap Tryz.prog aC 195 [(TFd.mk n nm nd (Typ.mk k m M s w e f) d).pv] (TFd.mk n nm nd (Typ.mk k m M s w e f) d).pv:=by
 simp only[WO] at hT
 refine ap.intro U7.2 (by simp[U7]) ?_
 simp(maxSteps:=9^7) (disch:=try exact dI) only[U7,WJ,WO,ae,push_cast,seval]
 refine ab.pure hT rfl ?_
 simp(maxSteps:=9^7) (disch:=try exact dI) only[push_cast,seval]
 refine au ([]) (fun i:Nat=>[(17,.pv (.int .i64 (i:Int))),(3,.olist 2 6 ((d.take i).map Val.pv))]) (fun _=>[]) (fun i=>i<=d.length) (fun i=>d.length - i) (0) ?_;intro e0 σ0 n0 h0;simp(maxSteps:=9^7) (disch:=try exact dI) only[push_cast,seval] at h0;obtain⟨rfl,rfl,rfl⟩:=h0;refine⟨?_,?_,?_⟩
 ·simp(maxSteps:=9^7) (disch:=try exact dI) only[push_cast,seval]
 ·omega
 intro i hi
 by_cases hlt:i<d.length
 ·have hltI:(i:Int)<(d.length:Int):=by omega
  obtain⟨x,hx⟩:∃ x,d[i]? = some x:=⟨_,WT hlt⟩
  have hc:=kK _ x (Nat.lt_succ_self _) (hv x (WV hx))
  have hts:=aE hx
  have hlt2:(d.take i).length=i:=by rw[Xf];omega
  obtain⟨vk,vn,vs,vt,vl,vf⟩:=x
  simp only[WQ] at hc
  simp(maxSteps:=9^7) (disch:=try exact dI) only[hx,Xm,WQ,push_cast,seval]
  refine ab.pure hc rfl ?_
  simp(maxSteps:=9^7) (disch:=try exact dI) only[hlt2,push_cast,seval]
  exact⟨i+1,aJ (by simp(maxSteps:=9^7) (disch:=try exact dI) only[hts,Xe,WQ,push_cast,seval]),by omega,by omega⟩
 ·obtain rfl:i=d.length:=by omega
  simp(maxSteps:=9^7) (disch:=try exact dI) only[List.take_length,Int.lt_irrefl,push_cast,seval]
def cb:Nat->Typ->Prop
 | 0,_=>False
 | n+1,.mk k m M s w e f=>w.length*16<=140737488351232/\e.length*104<=140737488351232/\f.length*160<=140737488351232/\(∀ x∈e,cb n x)/\∀ g∈f,g.dflt.length*88<=140737488351232/\(∀ v∈g.dflt,v.ok)/\cb n g.typ
theorem uW:∀ (n:Nat) (t:Typ),cb n t->ap Tryz.prog aC 198 [t.pv] t.pv
 | 0,_,h=>h.elim
 | n+1,.mk k m M s w e f,h=>by
   have ih:=uW n
   simp only[cb] at h
   obtain⟨hw,hel,hfl,he,hf⟩:=h
   have h297:=JJ w hw
   refine ap.intro U4.2 (by simp[U4]) ?_
   simp(maxSteps:=9^7) (disch:=try exact dI) only[U4,WO,push_cast,seval]
   refine au ([]) (fun i:Nat=>[(16,.pv (.int .i64 (i:Int))),(3,.olist 2 7 ((e.take i).map Typ.pv))]) (fun _=>[]) (fun i=>i<=e.length) (fun i=>e.length - i) (0) ?_;intro e0 σ0 n0 h0;simp(maxSteps:=9^7) (disch:=try exact dI) only[push_cast,seval] at h0;obtain⟨rfl,rfl,rfl⟩:=h0;refine⟨?_,?_,?_⟩
   ·simp(maxSteps:=9^7) (disch:=try exact dI) only[push_cast,seval]
   ·omega
   intro i hi
   by_cases hlt:i<e.length
   ·have hltI:(i:Int)<(e.length:Int):=by omega
    obtain⟨x,hx⟩:∃ x,e[i]? = some x:=⟨_,WT hlt⟩
    have hc:=ih x (he x (WV hx))
    have hts:=aE hx
    have hlt2:(e.take i).length=i:=by rw[Xf];omega
    obtain⟨k',m',M',s',w',e',f'⟩:=x
    simp only[WO] at hc
    simp(maxSteps:=9^7) (disch:=try exact dI) only[hx,Xm,WO,ae,push_cast,seval]
    refine ab.pure hc rfl ?_
    simp(maxSteps:=9^7) (disch:=try exact dI) only[hlt2,push_cast,seval]
    exact⟨i+1,aJ (by simp(maxSteps:=9^7) (disch:=try exact dI) only[hts,Xe,WO,push_cast,seval]),by omega,by omega⟩
   obtain rfl:i=e.length:=by omega
   clear hi hlt
   simp(maxSteps:=9^7) (disch:=try exact dI) only[List.take_length,Int.lt_irrefl,push_cast,seval]
   refine au ([]) (fun i:Nat=>[(33,.pv (.int .i64 (i:Int))),(6,.olist 3 11 ((f.take i).map TFd.pv))]) (fun _=>[]) (fun i=>i<=f.length) (fun i=>f.length - i) (0) ?_;intro e0 σ0 n0 h0;simp(maxSteps:=9^7) (disch:=try exact dI) only[push_cast,seval] at h0;obtain⟨rfl,rfl,rfl⟩:=h0;refine⟨?_,?_,?_⟩
   ·simp(maxSteps:=9^7) (disch:=try exact dI) only[push_cast,seval]
   ·omega
   intro i hi
   by_cases hlt:i<f.length
   ·have hltI:(i:Int)<(f.length:Int):=by omega
    obtain⟨x,hx⟩:∃ x,f[i]? = some x:=⟨_,WT hlt⟩
    obtain⟨hdl,hdv,hds⟩:=hf x (WV hx)
    have hts:=aE hx
    have hlt2:(f.take i).length=i:=by rw[Xf];omega
    obtain⟨n',nm',nd',⟨k',m',M',s',w',e',f'⟩,d'⟩:=x
    have hc:=uX n' nm' nd' k' m' M' s' w' e' f' d' (ih _ hds) hdl hdv
    simp only[WJ,WO,ae] at hc
    simp(maxSteps:=9^7) (disch:=try exact dI) only[hx,Xm,WJ,WO,ae,push_cast,seval]
    refine ab.pure hc rfl ?_
    simp(maxSteps:=9^7) (disch:=try exact dI) only[hlt2,push_cast,seval]
    exact⟨i+1,aJ (by simp(maxSteps:=9^7) (disch:=try exact dI) only[hts,Xe,WJ,WO,ae,push_cast,seval]),by omega,by omega⟩
   obtain rfl:i=f.length:=by omega
   clear hi hlt
   simp(maxSteps:=9^7) (disch:=try exact dI) only[List.take_length,Int.lt_irrefl,push_cast,seval]
   refine ab.pure h297 rfl ?_
   simp(maxSteps:=9^7) (disch:=try exact dI) only[push_cast,seval]
theorem RO (x:TFd)(name:List UInt8):ap Tryz.prog aC 190 [x.pv,.eptr [.str name] 0 0] (.bool (named name x)):=by
 obtain⟨a,b,c,⟨k,m,n,s,w,e,fs⟩,d⟩:=x
 refine ap.intro U9.2 (by simp[U9]) ?_
 simp(maxSteps:=9^7) (disch:=try exact dI) only[U9,WJ,WO,named,TFd.name,push_cast,seval]
 exact decide_eq_decide.2 Iff.rfl
theorem n6 {n:Nat}{k m M s:Int}{w:List (List UInt8)}{e:List Typ}{f:List TFd}(h:cb (n+1) (.mk k m M s w e f)){x:TFd}(hx:x∈f):ap Tryz.prog aC 195 [x.pv] x.pv:=by
 simp only[cb] at h
 obtain⟨h1,h2,h3⟩:=h.2.2.2.2 x hx
 obtain⟨n',nm',nd',⟨k',m',M',s',w',e',f'⟩,d'⟩:=x
 exact uX _ _ _ _ _ _ _ _ _ _ _ (uW n _ h3) h1 h2
def cY (t:Typ)(name:List UInt8):Option TFd:=if t.kind=9\/t.kind=10 then t.fields.find? (named name) else none
theorem Ou (n:Nat)(t:Typ)(name:List UInt8)(h:cb n t):ap Tryz.prog aC 189 [t.pv,.clo 190 [] [.eptr [.str name] 0 0]] (tfR (cY t name)):=by
 cases n with
 | zero=>exact h.elim
 | succ n=>
 obtain⟨k,m,M,s,w,e,f⟩:=t
 have hcl:=fun x hx=>n6 h (x:=x) hx
 have hfl:f.length<=9000000000000:=by simp only[cb] at h;have:=h.2.2.1;omega
 clear h
 have h147:=DE f 190 [.eptr [.str name] 0 0] (named name) (fun x _=>RO x name) (by omega)
 refine ap.intro SR.2 (by simp[SR]) ?_
 by_cases hk:k=9\/k=10
 ·rw[show cY (.mk k m M s w e f) name=f.find? (named name) from if_pos hk]
  rcases eM (p:=named name) f 0 with ⟨h1,h2⟩ | ⟨i,x,h1,h2,h3⟩
  ·rw[h1]
   rw[h2] at h147
   rcases hk with rfl | rfl
   all_goals
    simp(maxSteps:=9^7) (disch:=try exact dI) only[SR,WO,push_cast,seval]
    refine ab.pure h147 rfl ?_
    simp(maxSteps:=9^7) (disch:=try exact dI) only[tfR,Option.getD_none,Yj,lD,WJ,WO,ae,push_cast,seval]
  ·rw[h2]
   rw[h3,Nat.zero_add] at h147
   have hc:=hcl x (WV h1)
   obtain⟨x1,x2,x3,⟨y1,y2,y3,y4,y5,y6,y7⟩,x5⟩:=x
   simp only[WJ,WO,ae] at hc
   have hi:¬ (i:Int)<0:=by omega
   rcases hk with rfl | rfl
   all_goals
    simp(maxSteps:=9^7) (disch:=try exact dI) only[SR,WO,push_cast,seval]
    refine ab.pure h147 rfl ?_
    simp(maxSteps:=9^7) (disch:=try exact dI) only[h1,Xm,WJ,WO,ae,push_cast,seval]
    refine ab.pure hc rfl ?_
    simp(maxSteps:=9^7) (disch:=try exact dI) only[tfR,XK,X8,WJ,WO,ae,push_cast,seval]
 ·rw[show cY (.mk k m M s w e f) name=none from if_neg hk]
  have h9:¬ k=9:=by omega
  have h10:¬ k=10:=by omega
  simp(maxSteps:=9^7) (disch:=try exact dI) only[SR,WO,tfR,Option.getD_none,Yj,lD,WJ,ae,push_cast,seval]
theorem uL (n:Nat)(t:Typ)(name:List UInt8)(h:cb n t):ap Tryz.prog aC 163 [t.pv,.str name] (tfR (cY t name)):=by
 have hf:=Ou n t name h
 generalize cY t name=o at hf ⊢
 obtain⟨k,m,M,s,w,e,f⟩:=t
 simp only[WO] at hf
 refine ap.intro TK.2 (by simp[TK]) ?_
 cases o with
 | none=>
   simp only[tfR,Option.getD_none,Yj,lD,WJ,WO,ae] at hf ⊢
   simp(maxSteps:=9^7) (disch:=try exact dI) only[TK,WO,push_cast,seval]
   refine ab.pure hf rfl ?_
   simp(maxSteps:=9^7) (disch:=try exact dI) only[push_cast,seval]
 | some x=>
   obtain⟨x1,x2,x3,⟨y1,y2,y3,y4,y5,y6,y7⟩,x5⟩:=x
   simp only[tfR,XK,X8,WJ,WO,ae] at hf ⊢
   simp(maxSteps:=9^7) (disch:=try exact dI) only[TK,WO,push_cast,seval]
   refine ab.pure hf rfl ?_
   simp(maxSteps:=9^7) (disch:=try exact dI) only[push_cast,seval]
theorem IK (l:List Val)(g:Nat)(cs:List PV)(q:Val->Bool)(hq:∀ x∈l,ap Tryz.prog aC g (x.pv::cs) (.bool (q x)))(hl:l.length<=9000000000000) :
  ap Tryz.prog aC 188 [.list (l.map Val.pv),.clo g [] cs] (.int .i64 (iH q l 0)):=by
 refine ap.intro Va.2 (by simp[Va]) ?_
 simp(maxSteps:=9^7) (disch:=try exact dI) only[Va,push_cast,seval]
 refine au ([]) (fun m:Nat=>[(8,.pv (.int .i64 (m:Int)))]) (fun m=>[]) (fun m=>m<=l.length/\iH q l 0=iH q (l.drop m) m) (fun m=>l.length - m) (0) ?_;intro e0 σ0 n0 h0;simp(maxSteps:=9^7) (disch:=try exact dI) only[push_cast,seval] at h0;obtain⟨rfl,rfl,rfl⟩:=h0;refine⟨?_,?_,?_⟩
 ·simp(maxSteps:=9^7) (disch:=try exact dI) only[push_cast,seval]
 ·exact⟨by omega,by simp⟩
 ·rintro m ⟨hm,he⟩
  by_cases hlt:m<l.length
  ·have hltI:(m:Int)<l.length:=by omega
   obtain⟨x,hx⟩:∃ x,l[m]? = some x:=⟨_,WT hlt⟩
   have hcall:=hq x (WV hx)
   have hcl:x.pv.cells.length=6:=by cases x;rw[WQ];rfl
   have hag:x.pv.isAgg=true:=by cases x;rw[WQ];rfl
   simp(maxSteps:=9^7) (disch:=try exact dI) only[hx,hcl,hag,push_cast,seval]
   refine ab.pure hcall (by exact uc (x.pv::cs)) ?_
   cases hqx:q x with
   | true=>
     rw[he,kr hx hqx]
     simp(maxSteps:=9^7) (disch:=try exact dI) only[push_cast,seval]
   | false=>
     rw[gU hx hqx] at he
     simp(maxSteps:=9^7) (disch:=try exact dI) only[push_cast,seval]
     exact⟨m+1,aJ qsZ,⟨by omega,he⟩,by omega⟩
  ·have hltI:¬ (m:Int)<l.length:=by omega
   rw[he,ku hlt]
   simp(maxSteps:=9^7) (disch:=try exact dI) only[push_cast,seval]
theorem tj (l:List Val)(g:Nat)(cs:List PV)(q:Val->Bool)(hq:∀ x∈l,ap Tryz.prog aC g (x.pv::cs) (.bool (q x)))(hl:l.length<=9000000000000) :
  ap Tryz.prog aC 161 [.list (l.map Val.pv),.clo g [] cs] (.bool (l.any q)):=by
 have h94:=IK l g cs q hq hl
 have hfa:=jB (p:=q) l
 refine ap.intro TL.2 (by simp[TL]) ?_
 rcases eM (p:=q) l 0 with ⟨h1,h2⟩ | ⟨k,x,h1,h2,h3⟩
 ·rw[h2] at h94
  rw[h1] at hfa
  rw[<- hfa]
  simp(maxSteps:=9^7) (disch:=try exact dI) only[TL,push_cast,seval]
  refine ab.pure h94 rfl ?_
  simp(maxSteps:=9^7) (disch:=try exact dI) only[push_cast,seval]
  exact .refl _
 ·rw[h3] at h94
  rw[h2] at hfa
  rw[<- hfa]
  have hk:(0:Int)<=((0+k:Nat):Int):=by omega
  generalize ((0+k:Nat):Int)=z at *
  simp(maxSteps:=9^7) (disch:=try exact dI) only[TL,push_cast,seval]
  refine ab.pure h94 rfl ?_
  simp(maxSteps:=9^7) (disch:=try exact dI) only[push_cast,seval]
  exact .refl _
def yv (v:Val):TFd->Bool
 | .mk _ nm nd _ _=>(v.fields.find? (iV nm)).isNone&&!decide (nd=2)
theorem RP (v:Val)(g:TFd)(hv:v.ok)(hk:v.kind=9)(h:v.fields.length<=9000000000000):ap Tryz.prog aC 164 [g.pv,.eptr [v.pv] 0 0] (.bool (yv v g)):=by
 obtain⟨n',nm',nd',⟨k',m',M',s',w',e',f'⟩,d'⟩:=g
 have h52:=Jt v nm' hv hk h
 simp only[yv]
 generalize v.fields.find? (iV nm')=o at h52 ⊢
 obtain⟨vk,vn,vs,vt,vl,vf⟩:=v
 simp only[WQ] at h52
 refine ap.intro SY.2 (by simp[SY]) ?_
 cases o with
 | none=>
   simp only[vlR,Option.map_none,Option.getD_none,Yj,Option.isNone_none,Lm,WQ] at h52 ⊢
   by_cases hnd:nd'=2
   ·simp(maxSteps:=9^7) (disch:=try exact dI) only[SY,WQ,WJ,WO,ae,push_cast,seval]
    refine ab.pure h52 rfl ?_
    simp(maxSteps:=9^7) (disch:=try exact dI) only[hnd,push_cast,seval]
   ·simp(maxSteps:=9^7) (disch:=try exact dI) only[SY,WQ,WJ,WO,ae,push_cast,seval]
    refine ab.pure h52 rfl ?_
    simp(maxSteps:=9^7) (disch:=try exact dI) only[hnd,push_cast,seval]
 | some x=>
   obtain⟨xn,⟨xk,xi,xs,xt,xl,xf⟩⟩:=x
   simp only[vlR,Xm,XK,X8,Option.isNone_some,Fld.value,WQ] at h52 ⊢
   simp(maxSteps:=9^7) (disch:=try exact dI) only[SY,WQ,WJ,WO,ae,push_cast,seval]
   refine ab.pure h52 rfl ?_
   simp(maxSteps:=9^7) (disch:=try exact dI) only[push_cast,seval]
def IU (p:Typ->Bool):List Typ->Bool
 | []=>false
 | x::_=>p x
def DI (p:Val->Bool):List Val->Bool
 | []=>false
 | x::_=>p x
def Tx (p:Typ->Val->Bool)(l:List Val):Option TFd->Bool
 | none=>false
 | some g=>DI (p g.typ) l
def Pz (p:Typ->Val->Bool)(v:Val):Option TFd->Bool
 | none=>false
 | some g=>p g.typ v
def VQ (t:Typ)(v:Val):Bool:=inB v.num t.min t.max&&decide (v.scale=t.scale)
def VO (t:Typ)(v:Val):Bool:=if 0<t.words.length then t.words.any fun x=>decide (x=v.text) else inB v.text.length t.min t.max
def KL (p:Typ->Val->Bool)(t:Typ)(v:Val):Bool:=
 if t.kind=2\/t.kind=6\/t.kind=7\/t.kind=3 then VQ t v else if t.kind=4 then VO t v else if t.kind=5 then inB v.text.length t.min t.max
 else if t.kind=8 then inB v.lst.length t.min t.max&&!(v.lst.any fun x=>!(IU (fun e=>p e x) t.elem)) else if t.kind=10 then Tx p v.lst (cY t v.text)
 else if t.kind=9 then (v.fields.all fun x=>Pz p x.value (cY t x.name))&&!(t.fields.any (yv v)) else true
def eL:Nat->Typ->Val->Bool
 | 0,_,_=>false
 | n+1,t,v=>decide (v.kind=t.kind)&&KL (eL n) t v
def DM:Nat->Typ->Val->Prop
 | 0,_,_=>False
 | n+1,t,v=>(∃ N,cb N t)/\(1<=t.kind/\t.kind<=10)/\t.words.length<=9000000000000/\v.ok/\v.lst.length<=9000000000000/\v.fields.length<=9000000000000/\(v.kind=t.kind ->
   (t.kind=2\/t.kind=6\/t.kind=7->v.scale=t.scale)/\(t.kind=8->∀ y∈v.lst,∃ x r,t.elem=x::r/\DM n x y)/\(t.kind=10->∀ g,cY t v.text=some g->∃ y r,v.lst=y::r/\DM n g.typ y)/\(t.kind=9->∀ x∈v.fields,∀ g,cY t x.name=some g->DM n g.typ x.value))
def qp (n:Nat):Prop:=∀ t v,DM n t v->ap Tryz.prog aC 145 [t.pv,v.pv] (.bool (eL n t v))
theorem DO (n:Nat)(t:Typ)(v:Val)(h:¬ v.kind=t.kind):ap Tryz.prog aC 145 [t.pv,v.pv] (.bool (eL (n+1) t v)):=by
 rw[show eL (n+1) t v=false by simp[eL,h]]
 obtain⟨k,m,M,s,w,e,f⟩:=t
 obtain⟨vk,vn,vs,vt,vl,vf⟩:=v
 simp only[Val.kind,Typ.kind] at h
 refine ap.intro gC.2 (by simp[gC]) ?_
 simp(maxSteps:=9^7) (disch:=try exact dI) only[gC,WO,WQ,push_cast,seval]
theorem yF (n:Nat)(k m M s:Int)(w:List (List UInt8))(e:List Typ)(f:List TFd)(vn vs:Int)(vt:List UInt8)(vl:List Val)(vf:List Fld)(hk:k=2\/k=6\/k=7\/k=3):ap Tryz.prog aC 145 [(Typ.mk k m M s w e f).pv,(Val.mk k vn vs vt vl vf).pv] (.bool (eL (n+1) (.mk k m M s w e f) (.mk k vn vs vt vl vf))):=by
 have hi:=nh vn m M
 rw[show eL (n+1) (.mk k m M s w e f) (.mk k vn vs vt vl vf)=(inB vn m M&&decide (vs=s)) by simp[eL,KL,Typ.kind,Val.kind,hk,VQ,Val.num,Typ.min,Typ.max,Val.scale,Typ.scale];rfl]
 generalize inB vn m M=b at hi ⊢
 by_cases hs:vs=s
 ·rcases hk with rfl | rfl | rfl | rfl
  all_goals
   refine ap.intro gC.2 (by simp[gC]) ?_
   simp(maxSteps:=9^7) (disch:=try exact dI) only[gC,WO,WQ,push_cast,seval]
   refine ab.pure hi rfl ?_
   cases b with
   | false=>simp(maxSteps:=9^7) (disch:=try exact dI) only[push_cast,seval]
   | true=>simp(maxSteps:=9^7) (disch:=try exact dI) only[hs,push_cast,seval]
 ·rcases hk with rfl | rfl | rfl | rfl
  all_goals
   refine ap.intro gC.2 (by simp[gC]) ?_
   simp(maxSteps:=9^7) (disch:=try exact dI) only[gC,WO,WQ,push_cast,seval]
   refine ab.pure hi rfl ?_
   cases b with
   | false=>simp(maxSteps:=9^7) (disch:=try exact dI) only[push_cast,seval]
   | true=>simp(maxSteps:=9^7) (disch:=try exact dI) only[hs,push_cast,seval]
theorem I9 (n:Nat)(m M s:Int)(w:List (List UInt8))(e:List Typ)(f:List TFd)(vn vs:Int)(vt:List UInt8)(vl:List Val)(vf:List Fld)(hw:w.length<=9000000000000):ap Tryz.prog aC 145 [(Typ.mk 4 m M s w e f).pv,(Val.mk 4 vn vs vt vl vf).pv] (.bool (eL (n+1) (.mk 4 m M s w e f) (.mk 4 vn vs vt vl vf))):=by
 have hi:=nh vt.length m M
 have hc:=zh w vt hw
 rw[show eL (n+1) (.mk 4 m M s w e f) (.mk 4 vn vs vt vl vf)=if 0<w.length then w.any (fun x=>decide (x=vt)) else inB vt.length m M by simp[eL,KL,Typ.kind,Val.kind,VO,Val.text,Typ.min,Typ.max,Typ.words];rfl]
 refine ap.intro gC.2 (by simp[gC]) ?_
 by_cases h0:0<w.length
 ·have h0I:(0:Int)<(w.length:Int):=by omega
  rw[if_pos h0]
  generalize w.any (fun x=>decide (x=vt))=b at hc ⊢
  simp(maxSteps:=9^7) (disch:=try exact dI) only[gC,WO,WQ,push_cast,seval]
  refine ab.pure hc rfl ?_
  simp(maxSteps:=9^7) (disch:=try exact dI) only[push_cast,seval]
 ·have h0I:¬ (0:Int)<(w.length:Int):=by omega
  rw[if_neg h0]
  generalize inB vt.length m M=b at hi ⊢
  simp(maxSteps:=9^7) (disch:=try exact dI) only[gC,WO,WQ,push_cast,seval]
  refine ab.pure hi rfl ?_
  simp(maxSteps:=9^7) (disch:=try exact dI) only[push_cast,seval]
theorem I8 (n:Nat)(m M s:Int)(w:List (List UInt8))(e:List Typ)(f:List TFd)(vn vs:Int)(vt:List UInt8)(vl:List Val)(vf:List Fld):ap Tryz.prog aC 145 [(Typ.mk 5 m M s w e f).pv,(Val.mk 5 vn vs vt vl vf).pv] (.bool (eL (n+1) (.mk 5 m M s w e f) (.mk 5 vn vs vt vl vf))):=by
 have hi:=nh vt.length m M
 rw[show eL (n+1) (.mk 5 m M s w e f) (.mk 5 vn vs vt vl vf)=inB vt.length m M by simp[eL,KL,Typ.kind,Val.kind,Val.text,Typ.min,Typ.max]]
 generalize inB vt.length m M=b at hi ⊢
 refine ap.intro gC.2 (by simp[gC]) ?_
 simp(maxSteps:=9^7) (disch:=try exact dI) only[gC,WO,WQ,push_cast,seval]
 refine ab.pure hi rfl ?_
 simp(maxSteps:=9^7) (disch:=try exact dI) only[push_cast,seval]
theorem RQ (n:Nat)(ih:qp n)(m M s:Int)(w:List (List UInt8))(x:Typ)(r:List Typ)(f:List TFd)(y:Val)(h:DM n x y):ap Tryz.prog aC 162 [y.pv,.eptr [(Typ.mk 8 m M s w (x::r) f).pv] 0 0] (.bool (!eL n x y)):=by
 have hc:=ih x y h
 generalize eL n x y=b at hc ⊢
 obtain⟨k',m',M',s',w',e',f'⟩:=x
 obtain⟨vk,vn,vs,vt,vl,vf⟩:=y
 simp only[WO,WQ] at hc
 refine ap.intro Vk.2 (by simp[Vk]) ?_
 simp(maxSteps:=9^7) (disch:=try exact dI) only[Vk,WO,WQ,cP,push_cast,seval]
 refine ab.pure hc rfl ?_
 simp(maxSteps:=9^7) (disch:=try exact dI) only[push_cast,seval]
theorem I7 (n:Nat)(ih:qp n)(m M s:Int)(w:List (List UInt8))(e:List Typ)(f:List TFd)(vn vs:Int)(vt:List UInt8)(vl:List Val)(vf:List Fld)(hl:vl.length<=9000000000000)(h:∀ y∈vl,∃ x r,e=x::r/\DM n x y):ap Tryz.prog aC 145 [(Typ.mk 8 m M s w e f).pv,(Val.mk 8 vn vs vt vl vf).pv] (.bool (eL (n+1) (.mk 8 m M s w e f) (.mk 8 vn vs vt vl vf))):=by
 have hi:=nh vl.length m M
 have hc:=tj vl 162 [.eptr [(Typ.mk 8 m M s w e f).pv] 0 0] (fun x=>!(IU (fun e=>eL n e x) e)) (fun y hy=>by
  obtain⟨x,r,rfl,hx⟩:=h y hy
  exact RQ n ih m M s w x r f y hx) hl
 rw[show eL (n+1) (.mk 8 m M s w e f) (.mk 8 vn vs vt vl vf)=(inB vl.length m M&&!(vl.any (fun x=>!(IU (fun e=>eL n e x) e)))) by simp[eL,KL,Typ.kind,Val.kind,Val.lst,Typ.min,Typ.max,Typ.elem]]
 generalize inB vl.length m M=b at hi ⊢
 generalize vl.any (fun x=>!(IU (fun e=>eL n e x) e))=q at hc ⊢
 simp only[WO] at hc
 refine ap.intro gC.2 (by simp[gC]) ?_
 simp(maxSteps:=9^7) (disch:=try exact dI) only[gC,WO,WQ,push_cast,seval]
 refine ab.pure hi rfl ?_
 cases b with
 | false=>simp(maxSteps:=9^7) (disch:=try exact dI) only[push_cast,seval]
 | true=>
   simp(maxSteps:=9^7) (disch:=try exact dI) only[push_cast,seval]
   refine ab.pure hc rfl ?_
   simp(maxSteps:=9^7) (disch:=try exact dI) only[push_cast,seval]
