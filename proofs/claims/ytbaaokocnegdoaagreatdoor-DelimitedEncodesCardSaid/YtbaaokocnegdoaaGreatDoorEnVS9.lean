/- A part. -/
import Derived.Test.YtbaaokocnegdoaaGreatDoorEnVS5
set_option linter.unusedVariables false
set_option linter.unusedSimpArgs false
set_option maxHeartbeats 16000000
set_option maxRecDepth 100000
open List renaming getElem?_eq_getElem->Vg,mem_of_getElem?->Vk,length_take->Vs,map_append->VI,take_length->VR,getElem?_eq_some_iff->Vh
open Option renaming map_some->Vl,getD_none->V9,isSome_none->V4,getD_some->VW,isSome_some->V6
open Int renaming lt_irrefl->VH
namespace Go.Proofs.YtbaaokocnegdoaaGreatDoor
open Go Go.Ab
attribute [local irreducible] vc
theorem Jb (w:List (List UInt8))(hw:w.length<=1000000000):ae Tryz.prog aq 297 [.list (w.map PV.str)] (.list (w.map PV.str)):=by
 refine ae.intro R5.2 (by simp[R5]) ?_
 cases w with
 | nil=>
   simp(disch:=try exact dI) only[R5,push_cast,seval]
   intro b
   cases b<;>simp(disch:=try exact dI) only[push_cast,seval]
 | cons x r=>
   rw[List.length_cons] at hw
   simp(disch:=try exact dI) only[R5,push_cast,seval]
theorem wC (n:Int)(nm:List UInt8)(nd k m M s:Int)(w:List (List UInt8))(e:List Typ)(f:List TFd)(d:List Val)(hT:ae Tryz.prog aq 296 [(Typ.mk k m M s w e f).pv] (Typ.mk k m M s w e f).pv)(hd:d.length<=1000000000)(hv:∀ v∈d,v.ok) :
  ae Tryz.prog aq 295 [(TFd.mk n nm nd (Typ.mk k m M s w e f) d).pv] (TFd.mk n nm nd (Typ.mk k m M s w e f) d).pv:=by
 simp only[Vd] at hT
 refine ae.intro TQ.2 (by simp[TQ]) ?_
 simp(disch:=try exact dI) only[TQ,U7,Vd,ag,push_cast,seval]
 refine ab.pure hT rfl ?_
 refine zgZ ?_
 refine ap ([]) (fun i:Nat=>[(17,.pv (.int .i64 (i:Int))),(3,.olist 2 6 ((d.take i).map Val.pv))]) (fun _=>[]) (fun i=>i<=d.length) (fun i=>d.length - i) (0) ?_;intro e0 σ0 n0 h0;simp(disch:=try exact dI) only[push_cast,seval] at h0;obtain⟨rfl,rfl,rfl⟩:=h0;refine⟨?_,?_,?_⟩
 ·exact qsZ
 ·omega
 intro i hi
 by_cases hlt:i<d.length
 ·have hltI:(i:Int)<(d.length:Int):=by omega
  obtain⟨x,hx⟩:∃ x,d[i]? = some x:=⟨_,Vg hlt⟩
  have hc:=iY _ x (Nat.lt_succ_self _) (hv x (Vk hx))
  have hts:=aD hx
  have hlt2:(d.take i).length=i:=by rw[Vs];omega
  obtain⟨vk,vn,vs,vt,vl,vf⟩:=x
  simp only[Vf] at hc
  simp(disch:=try exact dI) only[hx,Vl,Vf,push_cast,seval]
  refine ab.pure hc rfl ?_
  simp(disch:=try exact dI) only[hlt2,push_cast,seval]
  exact⟨i+1,aI (by simp(disch:=try exact dI) only[hts,VI,Vf,push_cast,seval]),by omega,by omega⟩
 ·obtain rfl:i=d.length:=by omega
  simp(disch:=try exact dI) only[VR,VH,push_cast,seval]
def cP:Nat->Typ->Prop
 | 0,_=>False
 | n+1,.mk k m M s w e f=>w.length<=1000000000/\e.length<=1000000000/\f.length<=1000000000/\(∀ x∈e,cP n x)/\∀ g∈f,g.dflt.length<=1000000000/\(∀ v∈g.dflt,v.ok)/\cP n g.typ
theorem wB:∀ (n:Nat) (t:Typ),cP n t->ae Tryz.prog aq 296 [t.pv] t.pv
 | 0,_,h=>h.elim
 | n+1,.mk k m M s w e f,h=>by
   have ih:=wB n
   simp only[cP] at h
   obtain⟨hw,hel,hfl,he,hf⟩:=h
   have h297:=Jb w hw
   refine ae.intro TP.2 (by simp[TP]) ?_
   simp(disch:=try exact dI) only[TP,Vd,push_cast,seval]
   refine ap ([]) (fun i:Nat=>[(16,.pv (.int .i64 (i:Int))),(3,.olist 2 7 ((e.take i).map Typ.pv))]) (fun _=>[]) (fun i=>i<=e.length) (fun i=>e.length - i) (0) ?_;intro e0 σ0 n0 h0;simp(disch:=try exact dI) only[push_cast,seval] at h0;obtain⟨rfl,rfl,rfl⟩:=h0;refine⟨?_,?_,?_⟩
   ·exact qsZ
   ·omega
   intro i hi
   by_cases hlt:i<e.length
   ·have hltI:(i:Int)<(e.length:Int):=by omega
    obtain⟨x,hx⟩:∃ x,e[i]? = some x:=⟨_,Vg hlt⟩
    have hc:=ih x (he x (Vk hx))
    have hts:=aD hx
    have hlt2:(e.take i).length=i:=by rw[Vs];omega
    obtain⟨k',m',M',s',w',e',f'⟩:=x
    simp only[Vd] at hc
    simp(disch:=try exact dI) only[hx,Vl,Vd,ag,push_cast,seval]
    refine ab.pure hc rfl ?_
    simp(disch:=try exact dI) only[hlt2,push_cast,seval]
    exact⟨i+1,aI (by simp(disch:=try exact dI) only[hts,VI,Vd,push_cast,seval]),by omega,by omega⟩
   obtain rfl:i=e.length:=by omega
   clear hi hlt
   simp(disch:=try exact dI) only[VR,VH,push_cast,seval]
   refine ap ([]) (fun i:Nat=>[(33,.pv (.int .i64 (i:Int))),(6,.olist 3 11 ((f.take i).map TFd.pv))]) (fun _=>[]) (fun i=>i<=f.length) (fun i=>f.length - i) (0) ?_;intro e0 σ0 n0 h0;simp(disch:=try exact dI) only[push_cast,seval] at h0;obtain⟨rfl,rfl,rfl⟩:=h0;refine⟨?_,?_,?_⟩
   ·exact qsZ
   ·omega
   intro i hi
   by_cases hlt:i<f.length
   ·have hltI:(i:Int)<(f.length:Int):=by omega
    obtain⟨x,hx⟩:∃ x,f[i]? = some x:=⟨_,Vg hlt⟩
    obtain⟨hdl,hdv,hds⟩:=hf x (Vk hx)
    have hts:=aD hx
    have hlt2:(f.take i).length=i:=by rw[Vs];omega
    obtain⟨n',nm',nd',⟨k',m',M',s',w',e',f'⟩,d'⟩:=x
    have hc:=wC n' nm' nd' k' m' M' s' w' e' f' d' (ih _ hds) hdl hdv
    simp only[U7,Vd,ag] at hc
    simp(disch:=try exact dI) only[hx,Vl,U7,Vd,ag,push_cast,seval]
    refine ab.pure hc rfl ?_
    simp(disch:=try exact dI) only[hlt2,push_cast,seval]
    exact⟨i+1,aI (by simp(disch:=try exact dI) only[hts,VI,U7,Vd,ag,push_cast,seval]),by omega,by omega⟩
   obtain rfl:i=f.length:=by omega
   clear hi hlt
   simp(disch:=try exact dI) only[VR,VH,push_cast,seval]
   refine ab.pure h297 rfl ?_
   exact qsZ
theorem QP (x:TFd)(name:List UInt8):ae Tryz.prog aq 285 [x.pv,.eptr [.str name] 0 0] (.bool (named name x)):=by
 obtain⟨a,b,c,⟨k,m,n,s,w,e,fs⟩,d⟩:=x
 refine ae.intro TU.2 (by simp[TU]) ?_
 simp(disch:=try exact dI) only[TU,U7,Vd,named,TFd.name,push_cast,seval]
 exact decide_eq_decide.2 Iff.rfl
theorem pW {n:Nat}{k m M s:Int}{w:List (List UInt8)}{e:List Typ}{f:List TFd}(h:cP (n+1) (.mk k m M s w e f)){x:TFd}(hx:x∈f):ae Tryz.prog aq 295 [x.pv] x.pv:=by
 simp only[cP] at h
 obtain⟨h1,h2,h3⟩:=h.2.2.2.2 x hx
 obtain⟨n',nm',nd',⟨k',m',M',s',w',e',f'⟩,d'⟩:=x
 exact wC _ _ _ _ _ _ _ _ _ _ _ (wB n _ h3) h1 h2
def bu (t:Typ)(name:List UInt8):Option TFd:=if t.kind=9\/t.kind=10 then t.fields.find? (named name) else none
theorem Ni (n:Nat)(t:Typ)(name:List UInt8)(h:cP n t):ae Tryz.prog aq 284 [t.pv,.clo 285 [] [.eptr [.str name] 0 0]] (tfR (bu t name)):=by
 cases n with
 | zero=>exact h.elim
 | succ n=>
 obtain⟨k,m,M,s,w,e,f⟩:=t
 have hcl:=fun x hx=>pW h (x:=x) hx
 have hfl:f.length<=1000000000:=by simp only[cP] at h;exact h.2.2.1
 clear h
 have h147:=tR f 285 [.eptr [.str name] 0 0] (named name) (fun x _=>QP x name) (by omega)
 refine ae.intro RB.2 (by simp[RB]) ?_
 by_cases hk:k=9\/k=10
 ·rw[show bu (.mk k m M s w e f) name=f.find? (named name) from if_pos hk]
  rcases bZ (p:=named name) f 0 with ⟨h1,h2⟩ | ⟨i,x,h1,h2,h3⟩
  ·rw[h1]
   rw[h2] at h147
   rcases hk with rfl | rfl
   all_goals
    simp(disch:=try exact dI) only[RB,Vd,push_cast,seval]
    refine ab.pure h147 rfl ?_
    simp(disch:=try exact dI) only[tfR,V9,V4,gG,U7,Vd,ag,push_cast,seval]
  ·rw[h2]
   rw[h3,Nat.zero_add] at h147
   have hc:=hcl x (Vk h1)
   obtain⟨x1,x2,x3,⟨y1,y2,y3,y4,y5,y6,y7⟩,x5⟩:=x
   simp only[U7,Vd,ag] at hc
   have hi:¬ (i:Int)<0:=by omega
   rcases hk with rfl | rfl
   all_goals
    simp(disch:=try exact dI) only[RB,Vd,push_cast,seval]
    refine ab.pure h147 rfl ?_
    simp(disch:=try exact dI) only[h1,Vl,U7,Vd,ag,push_cast,seval]
    refine ab.pure hc rfl ?_
    simp(disch:=try exact dI) only[tfR,VW,V6,U7,Vd,ag,push_cast,seval]
 ·rw[show bu (.mk k m M s w e f) name=none from if_neg hk]
  have h9:¬ k=9:=by omega
  have h10:¬ k=10:=by omega
  simp(disch:=try exact dI) only[RB,Vd,tfR,V9,V4,gG,U7,ag,push_cast,seval]
theorem wq (n:Nat)(t:Typ)(name:List UInt8)(h:cP n t):ae Tryz.prog aq 247 [t.pv,.str name] (tfR (bu t name)):=by
 have hf:=Ni n t name h
 generalize bu t name=o at hf ⊢
 obtain⟨k,m,M,s,w,e,f⟩:=t
 simp only[Vd] at hf
 refine ae.intro R7.2 (by simp[R7]) ?_
 cases o with
 | none=>
   simp only[tfR,V9,V4,gG,U7,Vd,ag] at hf ⊢
   simp(disch:=try exact dI) only[R7,Vd,push_cast,seval]
   refine ab.pure hf rfl ?_
   exact qsZ
 | some x=>
   obtain⟨x1,x2,x3,⟨y1,y2,y3,y4,y5,y6,y7⟩,x5⟩:=x
   simp only[tfR,VW,V6,U7,Vd,ag] at hf ⊢
   simp(disch:=try exact dI) only[R7,Vd,push_cast,seval]
   refine ab.pure hf rfl ?_
   exact qsZ
theorem Io (l:List Val)(g:Nat)(cs:List PV)(q:Val->Bool)(hq:∀ x∈l,ae Tryz.prog aq g (x.pv::cs) (.bool (q x)))(hl:l.length<=1000000000) :
  ae Tryz.prog aq 283 [.list (l.map Val.pv),.clo g [] cs] (.int .i64 (fB q l 0)):=by
 refine ae.intro TV.2 (by simp[TV]) ?_
 simp(disch:=try exact dI) only[TV,push_cast,seval]
 refine ap ([]) (fun m:Nat=>[(8,.pv (.int .i64 (m:Int)))]) (fun m=>[]) (fun m=>m<=l.length/\fB q l 0=fB q (l.drop m) m) (fun m=>l.length - m) (0) ?_;intro e0 σ0 n0 h0;simp(disch:=try exact dI) only[push_cast,seval] at h0;obtain⟨rfl,rfl,rfl⟩:=h0;refine⟨?_,?_,?_⟩
 ·exact qsZ
 ·exact⟨by omega,by simp⟩
 ·rintro m ⟨hm,he⟩
  by_cases hlt:m<l.length
  ·have hltI:(m:Int)<l.length:=by omega
   obtain⟨x,hx⟩:∃ x,l[m]? = some x:=⟨_,Vg hlt⟩
   have hcall:=hq x (Vk hx)
   have hcl:x.pv.cells.length=6:=by cases x;rw[Vf];rfl
   have hag:x.pv.isAgg=true:=by cases x;rw[Vf];rfl
   simp(disch:=try exact dI) only[hx,hcl,hag,push_cast,seval]
   refine ab.pure hcall (by exact qD (x.pv::cs)) ?_
   cases hqx:q x with
   | true=>
     rw[he,fN hx hqx]
     exact qsZ
   | false=>
     rw[dR hx hqx] at he
     refine zgZ ?_
     exact⟨m+1,aI qsZ,⟨by omega,he⟩,by omega⟩
  ·have hltI:¬ (m:Int)<l.length:=by omega
   rw[he,fO hlt]
   exact qsZ
theorem uh (l:List Val)(g:Nat)(cs:List PV)(q:Val->Bool)(hq:∀ x∈l,ae Tryz.prog aq g (x.pv::cs) (.bool (q x)))(hl:l.length<=1000000000) :
  ae Tryz.prog aq 245 [.list (l.map Val.pv),.clo g [] cs] (.bool (l.any q)):=by
 have h94:=Io l g cs q hq hl
 have hfa:=iR (p:=q) l
 refine ae.intro R8.2 (by simp[R8]) ?_
 rcases bZ (p:=q) l 0 with ⟨h1,h2⟩ | ⟨k,x,h1,h2,h3⟩
 ·rw[h2] at h94
  rw[h1] at hfa
  rw[<- hfa]
  simp(disch:=try exact dI) only[R8,push_cast,seval]
  refine ab.pure h94 rfl ?_
  refine zgZ ?_
  exact .refl _
 ·rw[h3] at h94
  rw[h2] at hfa
  rw[<- hfa]
  have hk:(0:Int)<=((0+k:Nat):Int):=by omega
  generalize ((0+k:Nat):Int)=z at *
  simp(disch:=try exact dI) only[R8,push_cast,seval]
  refine ab.pure h94 rfl ?_
  refine zgZ ?_
  exact .refl _
def ke (v:Val):TFd->Bool
 | .mk _ nm nd _ _=>(v.fields.find? (aN nm)).isNone&&!decide (nd=2)
theorem QQ (v:Val)(g:TFd)(hv:v.ok)(hk:v.kind=9)(h:v.fields.length<=1000000):ae Tryz.prog aq 248 [g.pv,.eptr [v.pv] 0 0] (.bool (ke v g)):=by
 obtain⟨n',nm',nd',⟨k',m',M',s',w',e',f'⟩,d'⟩:=g
 have h52:=pn v nm' hv hk h
 simp only[ke]
 generalize v.fields.find? (aN nm')=o at h52 ⊢
 obtain⟨vk,vn,vs,vt,vl,vf⟩:=v
 simp only[Vf] at h52
 refine ae.intro RG.2 (by simp[RG]) ?_
 cases o with
 | none=>
   simp only[vlR,Option.map_none,V9,V4,Option.isNone_none,aK,Vf] at h52 ⊢
   by_cases hnd:nd'=2
   ·simp(disch:=try exact dI) only[RG,Vf,U7,Vd,ag,push_cast,seval]
    refine ab.pure h52 rfl ?_
    simp(disch:=try exact dI) only[hnd,push_cast,seval]
   ·simp(disch:=try exact dI) only[RG,Vf,U7,Vd,ag,push_cast,seval]
    refine ab.pure h52 rfl ?_
    simp(disch:=try exact dI) only[hnd,push_cast,seval]
 | some x=>
   obtain⟨xn,⟨xk,xi,xs,xt,xl,xf⟩⟩:=x
   simp only[vlR,Vl,VW,V6,Option.isNone_some,Fld.value,Vf] at h52 ⊢
   simp(disch:=try exact dI) only[RG,Vf,U7,Vd,ag,push_cast,seval]
   refine ab.pure h52 rfl ?_
   exact qsZ
def zj (p:Typ->Bool):List Typ->Bool
 | []=>false
 | x::_=>p x
def pg (p:Val->Bool):List Val->Bool
 | []=>false
 | x::_=>p x
def K8 (p:Typ->Val->Bool)(l:List Val):Option TFd->Bool
 | none=>false
 | some g=>pg (p g.typ) l
def xV (p:Typ->Val->Bool)(v:Val):Option TFd->Bool
 | none=>false
 | some g=>p g.typ v
def Ow (t:Typ)(v:Val):Bool:=inB v.num t.min t.max&&decide (v.scale=t.scale)
def O7 (t:Typ)(v:Val):Bool:=if 0<t.words.length then t.words.any fun x=>decide (x=v.text) else inB v.text.length t.min t.max
def rt (p:Typ->Val->Bool)(t:Typ)(v:Val):Bool:=
 if t.kind=2\/t.kind=6\/t.kind=7\/t.kind=3 then Ow t v else if t.kind=4 then O7 t v else if t.kind=5 then inB v.text.length t.min t.max
 else if t.kind=8 then inB v.lst.length t.min t.max&&!(v.lst.any fun x=>!(zj (fun e=>p e x) t.elem)) else if t.kind=10 then K8 p v.lst (bu t v.text)
 else if t.kind=9 then (v.fields.all fun x=>xV p x.value (bu t x.name))&&!(t.fields.any (ke v)) else true
def bp:Nat->Typ->Val->Bool
 | 0,_,_=>false
 | n+1,t,v=>decide (v.kind=t.kind)&&rt (bp n) t v
def rr:Nat->Typ->Val->Prop
 | 0,_,_=>False
 | n+1,t,v=>(∃ N,cP N t)/\(1<=t.kind/\t.kind<=10)/\t.words.length<=1000000/\v.ok/\v.lst.length<=1000000000/\v.fields.length<=1000000/\(v.kind=t.kind ->
   (t.kind=2\/t.kind=6\/t.kind=7->v.scale=t.scale)/\(t.kind=8->∀ y∈v.lst,∃ x r,t.elem=x::r/\rr n x y)/\(t.kind=10->∀ g,bu t v.text=some g->∃ y r,v.lst=y::r/\rr n g.typ y)/\(t.kind=9->∀ x∈v.fields,∀ g,bu t x.name=some g->rr n g.typ x.value))
def r9 (n:Nat):Prop:=∀ t v,rr n t v->ae Tryz.prog aq 193 [t.pv,v.pv] (.bool (bp n t v))
theorem D6 (n:Nat)(t:Typ)(v:Val)(h:¬ v.kind=t.kind):ae Tryz.prog aq 193 [t.pv,v.pv] (.bool (bp (n+1) t v)):=by
 rw[show bp (n+1) t v=false by simp[bp,h]]
 obtain⟨k,m,M,s,w,e,f⟩:=t
 obtain⟨vk,vn,vs,vt,vl,vf⟩:=v
 simp only[Val.kind,Typ.kind] at h
 refine ae.intro ib.2 (by simp[ib]) ?_
 simp(disch:=try exact dI) only[ib,Vd,Vf,push_cast,seval]
theorem zq (n:Nat)(k m M s:Int)(w:List (List UInt8))(e:List Typ)(f:List TFd)(vn vs:Int)(vt:List UInt8)(vl:List Val)(vf:List Fld)(hk:k=2\/k=6\/k=7\/k=3):ae Tryz.prog aq 193 [(Typ.mk k m M s w e f).pv,(Val.mk k vn vs vt vl vf).pv] (.bool (bp (n+1) (.mk k m M s w e f) (.mk k vn vs vt vl vf))):=by
 have hi:=rn vn m M
 rw[show bp (n+1) (.mk k m M s w e f) (.mk k vn vs vt vl vf)=(inB vn m M&&decide (vs=s)) by simp[bp,rt,Typ.kind,Val.kind,hk,Ow,Val.num,Typ.min,Typ.max,Val.scale,Typ.scale];rfl]
 generalize inB vn m M=b at hi ⊢
 by_cases hs:vs=s
 ·rcases hk with rfl | rfl | rfl | rfl
  all_goals
   refine ae.intro ib.2 (by simp[ib]) ?_
   simp(disch:=try exact dI) only[ib,Vd,Vf,push_cast,seval]
   refine ab.pure hi rfl ?_
   cases b with
   | false=>simp(disch:=try exact dI) only[push_cast,seval]
   | true=>simp(disch:=try exact dI) only[hs,push_cast,seval]
 ·rcases hk with rfl | rfl | rfl | rfl
  all_goals
   refine ae.intro ib.2 (by simp[ib]) ?_
   simp(disch:=try exact dI) only[ib,Vd,Vf,push_cast,seval]
   refine ab.pure hi rfl ?_
   cases b with
   | false=>simp(disch:=try exact dI) only[push_cast,seval]
   | true=>simp(disch:=try exact dI) only[hs,push_cast,seval]
theorem IE (n:Nat)(m M s:Int)(w:List (List UInt8))(e:List Typ)(f:List TFd)(vn vs:Int)(vt:List UInt8)(vl:List Val)(vf:List Fld)(hw:w.length<=1000000):ae Tryz.prog aq 193 [(Typ.mk 4 m M s w e f).pv,(Val.mk 4 vn vs vt vl vf).pv] (.bool (bp (n+1) (.mk 4 m M s w e f) (.mk 4 vn vs vt vl vf))):=by
 have hi:=rn vt.length m M
 have hc:=om w vt hw
 rw[show bp (n+1) (.mk 4 m M s w e f) (.mk 4 vn vs vt vl vf)=if 0<w.length then w.any (fun x=>decide (x=vt)) else inB vt.length m M by simp[bp,rt,Typ.kind,Val.kind,O7,Val.text,Typ.min,Typ.max,Typ.words];rfl]
 refine ae.intro ib.2 (by simp[ib]) ?_
 by_cases h0:0<w.length
 ·have h0I:(0:Int)<(w.length:Int):=by omega
  rw[if_pos h0]
  generalize w.any (fun x=>decide (x=vt))=b at hc ⊢
  simp(disch:=try exact dI) only[ib,Vd,Vf,push_cast,seval]
  refine ab.pure hc rfl ?_
  exact qsZ
 ·have h0I:¬ (0:Int)<(w.length:Int):=by omega
  rw[if_neg h0]
  generalize inB vt.length m M=b at hi ⊢
  simp(disch:=try exact dI) only[ib,Vd,Vf,push_cast,seval]
  refine ab.pure hi rfl ?_
  exact qsZ
theorem ID (n:Nat)(m M s:Int)(w:List (List UInt8))(e:List Typ)(f:List TFd)(vn vs:Int)(vt:List UInt8)(vl:List Val)(vf:List Fld):ae Tryz.prog aq 193 [(Typ.mk 5 m M s w e f).pv,(Val.mk 5 vn vs vt vl vf).pv] (.bool (bp (n+1) (.mk 5 m M s w e f) (.mk 5 vn vs vt vl vf))):=by
 have hi:=rn vt.length m M
 rw[show bp (n+1) (.mk 5 m M s w e f) (.mk 5 vn vs vt vl vf)=inB vt.length m M by simp[bp,rt,Typ.kind,Val.kind,Val.text,Typ.min,Typ.max]]
 generalize inB vt.length m M=b at hi ⊢
 refine ae.intro ib.2 (by simp[ib]) ?_
 simp(disch:=try exact dI) only[ib,Vd,Vf,push_cast,seval]
 refine ab.pure hi rfl ?_
 exact qsZ
theorem QR (n:Nat)(ih:r9 n)(m M s:Int)(w:List (List UInt8))(x:Typ)(r:List Typ)(f:List TFd)(y:Val)(h:rr n x y):ae Tryz.prog aq 246 [y.pv,.eptr [(Typ.mk 8 m M s w (x::r) f).pv] 0 0] (.bool (!bp n x y)):=by
 have hc:=ih x y h
 generalize bp n x y=b at hc ⊢
 obtain⟨k',m',M',s',w',e',f'⟩:=x
 obtain⟨vk,vn,vs,vt,vl,vf⟩:=y
 simp only[Vd,Vf] at hc
 refine ae.intro T8.2 (by simp[T8]) ?_
 simp(disch:=try exact dI) only[T8,Vd,Vf,az,push_cast,seval]
 refine ab.pure hc rfl ?_
 exact qsZ
theorem IC (n:Nat)(ih:r9 n)(m M s:Int)(w:List (List UInt8))(e:List Typ)(f:List TFd)(vn vs:Int)(vt:List UInt8)(vl:List Val)(vf:List Fld)(hl:vl.length<=1000000000)(h:∀ y∈vl,∃ x r,e=x::r/\rr n x y):ae Tryz.prog aq 193 [(Typ.mk 8 m M s w e f).pv,(Val.mk 8 vn vs vt vl vf).pv] (.bool (bp (n+1) (.mk 8 m M s w e f) (.mk 8 vn vs vt vl vf))):=by
 have hi:=rn vl.length m M
 have hc:=uh vl 246 [.eptr [(Typ.mk 8 m M s w e f).pv] 0 0] (fun x=>!(zj (fun e=>bp n e x) e)) (fun y hy=>by
  obtain⟨x,r,rfl,hx⟩:=h y hy
  exact QR n ih m M s w x r f y hx) hl
 rw[show bp (n+1) (.mk 8 m M s w e f) (.mk 8 vn vs vt vl vf)=(inB vl.length m M&&!(vl.any (fun x=>!(zj (fun e=>bp n e x) e)))) by simp[bp,rt,Typ.kind,Val.kind,Val.lst,Typ.min,Typ.max,Typ.elem]]
 generalize inB vl.length m M=b at hi ⊢
 generalize vl.any (fun x=>!(zj (fun e=>bp n e x) e))=q at hc ⊢
 simp only[Vd] at hc
 refine ae.intro ib.2 (by simp[ib]) ?_
 simp(disch:=try exact dI) only[ib,Vd,Vf,push_cast,seval]
 refine ab.pure hi rfl ?_
 cases b with
 | false=>simp(disch:=try exact dI) only[push_cast,seval]
 | true=>
   refine zgZ ?_
   refine ab.pure hc rfl ?_
   exact qsZ
theorem D7 (n:Nat)(ih:r9 n)(m M s:Int)(w:List (List UInt8))(e:List Typ)(f:List TFd)(vn vs:Int)(vt:List UInt8)(vl:List Val)(vf:List Fld)(N:Nat)(hs:cP N (.mk 10 m M s w e f))
  (h:∀ g,bu (.mk 10 m M s w e f) vt=some g->∃ y r,vl=y::r/\rr n g.typ y):ae Tryz.prog aq 193 [(Typ.mk 10 m M s w e f).pv,(Val.mk 10 vn vs vt vl vf).pv] (.bool (bp (n+1) (.mk 10 m M s w e f) (.mk 10 vn vs vt vl vf))):=by
 have hc:=wq N _ vt hs
 rw[show bp (n+1) (.mk 10 m M s w e f) (.mk 10 vn vs vt vl vf)=K8 (bp n) vl (bu (.mk 10 m M s w e f) vt) by simp[bp,rt,Typ.kind,Val.kind,Val.lst,Val.text]]
 generalize bu (.mk 10 m M s w e f) vt=o at hc h ⊢
 simp only[Vd] at hc
 cases o with
 | none=>
   simp only[tfR,V9,V4,gG,U7,Vd,ag,K8] at hc ⊢
   refine ae.intro ib.2 (by simp[ib]) ?_
   simp(disch:=try exact dI) only[ib,Vd,Vf,push_cast,seval]
   refine ab.pure hc rfl ?_
   exact qsZ
 | some g=>
   obtain⟨y,r,rfl,hy⟩:=h g rfl
   have hh:=ih _ _ hy
   obtain⟨n',nm',nd',⟨k',m',M',s',w',e',f'⟩,d'⟩:=g
   simp only[TFd.typ,K8,pg] at hh ⊢
   generalize bp n (.mk k' m' M' s' w' e' f') y=b at hh ⊢
   obtain⟨yk,yn,ys,yt,yl,yf⟩:=y
   simp only[tfR,VW,V6,U7,Vd,Vf,ag] at hc hh ⊢
   refine ae.intro ib.2 (by simp[ib]) ?_
   simp(disch:=try exact dI) only[ib,Vd,Vf,az,push_cast,seval]
   refine ab.pure hc rfl ?_
   simp(disch:=try exact dI) only[az,Vf,push_cast,seval]
   refine ab.pure hh rfl ?_
   exact qsZ
theorem tS (n:Nat)(k m M s:Int)(w:List (List UInt8))(e:List Typ)(f:List TFd)(vn vs:Int)(vt:List UInt8)(vl:List Val)(vf:List Fld)(h1:¬ (k=2\/k=6\/k=7\/k=3))(h4:¬ k=4)(h5:¬ k=5)(h8:¬ k=8)(h10:¬ k=10)(h9:¬ k=9):ae Tryz.prog aq 193 [(Typ.mk k m M s w e f).pv,(Val.mk k vn vs vt vl vf).pv] (.bool (bp (n+1) (.mk k m M s w e f) (.mk k vn vs vt vl vf))):=by
 rw[show bp (n+1) (.mk k m M s w e f) (.mk k vn vs vt vl vf)=true by simp[bp,rt,Typ.kind,Val.kind,h1,h4,h5,h8,h9,h10]]
 have a2:¬ k=2:=by omega
 have a6:¬ k=6:=by omega
 have a7:¬ k=7:=by omega
 have a3:¬ k=3:=by omega
 refine ae.intro ib.2 (by simp[ib]) ?_
 simp(disch:=try exact dI) only[ib,Vd,Vf,push_cast,seval]
theorem wW {α:Type}{p:α->Bool}{l:List α}{i:Nat}{x:α}(h:l[i]? = some x):(l.drop i).all p=(p x&&(l.drop (i+1)).all p):=by
 have hi:=(Vh.1 h).1
 have he:l[i]=x:=(Vh.1 h).2
 rw[List.drop_eq_getElem_cons hi,he,List.all_cons]
theorem IB (n:Nat)(ih:r9 n)(m M s:Int)(w:List (List UInt8))(e:List Typ)(f:List TFd)(vn vs:Int)(vt:List UInt8)(vl:List Val)(vf:List Fld)(N:Nat)(hs:cP N (.mk 9 m M s w e f))(hv:(Val.mk 9 vn vs vt vl vf).ok)(hvf:vf.length<=1000000)
  (h:∀ x∈vf,∀ g,bu (.mk 9 m M s w e f) x.name=some g->rr n g.typ x.value):ae Tryz.prog aq 193 [(Typ.mk 9 m M s w e f).pv,(Val.mk 9 vn vs vt vl vf).pv] (.bool (bp (n+1) (.mk 9 m M s w e f) (.mk 9 vn vs vt vl vf))):=by
 have hfl:f.length<=1000000000:=by
  cases N with
  | zero=>exact hs.elim
  | succ N=>simp only[cP] at hs;exact hs.2.2.1
 have hfld:=fun nm=>wq N _ nm hs
 have hla:=oo f 248 [.eptr [(Val.mk 9 vn vs vt vl vf).pv] 0 0] (ke (.mk 9 vn vs vt vl vf)) (fun g _=>QQ _ g hv rfl hvf) hfl
 rw[show bp (n+1) (.mk 9 m M s w e f) (.mk 9 vn vs vt vl vf)=((vf.all fun x=>xV (bp n) x.value (bu (.mk 9 m M s w e f) x.name))&&!(f.any (ke (.mk 9 vn vs vt vl vf)))) by simp[bp,rt,Typ.kind,Val.kind,Val.fields,Typ.fields]]
 generalize f.any (ke (.mk 9 vn vs vt vl vf))=q at hla ⊢
 obtain⟨T,hT⟩:∃ T,T=bu (.mk 9 m M s w e f):=⟨_,rfl⟩
 rw[<- hT] at h ⊢
 have hfld:∀ nm,ae Tryz.prog aq 247 [(Typ.mk 9 m M s w e f).pv,.str nm] (tfR (T nm)):=fun nm=>by rw[hT];exact hfld nm
 clear hT
 simp only[Vd,Vf] at hfld hla
 obtain⟨p,hp⟩:∃ p:Fld->Bool,p=fun x=>xV (bp n) x.value (T x.name):=⟨_,rfl⟩
 rw[<- hp]
 obtain⟨R,hR⟩:∃ R,R=(vf.all p&&!q):=⟨_,rfl⟩
 rw[<- hR]
 refine ae.intro ib.2 (by simp[ib]) ?_
 simp(disch:=try exact dI) only[ib,Vd,Vf,push_cast,seval]
 refine ap ([]) (fun i:Nat=>[(107,.pv (.int .i64 (i:Int)))]) (fun _=>[]) (fun i=>i<=vf.length/\R=((vf.drop i).all p&&!q)) (fun i=>vf.length - i) (0) ?_;intro e0 σ0 n0 h0;simp(disch:=try exact dI) only[push_cast,seval] at h0;obtain⟨rfl,rfl,rfl⟩:=h0;refine⟨?_,?_,?_⟩
 ·exact qsZ
 ·exact⟨by omega,by simpa using hR⟩
 rintro i ⟨hi,hr⟩
 by_cases hlt:i<vf.length
 ·have hltI:(i:Int)<(vf.length:Int):=by omega
  obtain⟨x,hx⟩:∃ x,vf[i]? = some x:=⟨_,Vg hlt⟩
  rw[wW hx] at hr
  have hph:=h x (Vk hx)
  have hc:=hfld x.name
  rw[show p x=xV (bp n) x.value (T x.name) by rw[hp]] at hr
  generalize T x.name=o at hph hc hr
  obtain⟨xn,y⟩:=x
  simp only[Fld.name,Fld.value] at hph hc hr
  cases o with
  | none=>
    simp only[xV,Bool.false_and] at hr
    subst hr
    obtain⟨yk,yn,ys,yt,yl,yf⟩:=y
    simp only[tfR,V9,V4,gG,U7,Vd,ag] at hc
    simp(disch:=try exact dI) only[hx,Vl,U3,Vf,ag,push_cast,seval]
    refine ab.pure hc rfl ?_
    exact qsZ
  | some g=>
    have hh:=ih _ _ (hph g rfl)
    simp only[xV] at hr
    obtain⟨n',nm',nd',⟨k',m',M',s',w',e',f'⟩,d'⟩:=g
    simp only[TFd.typ] at hh hr
    generalize bp n (.mk k' m' M' s' w' e' f') y=b at hh hr
    obtain⟨yk,yn,ys,yt,yl,yf⟩:=y
    simp only[tfR,VW,V6,U7,Vd,Vf,ag] at hc hh
    cases b with
    | false=>
      simp only[Bool.false_and] at hr
      subst hr
      simp(disch:=try exact dI) only[hx,Vl,U3,Vf,ag,push_cast,seval]
      refine ab.pure hc rfl ?_
      refine zgZ ?_
      refine ab.pure hh rfl ?_
      exact qsZ
    | true=>
      rw[Bool.true_and] at hr
      simp(disch:=try exact dI) only[hx,Vl,U3,Vf,ag,push_cast,seval]
      refine ab.pure hc rfl ?_
      refine zgZ ?_
      refine ab.pure hh rfl ?_
      refine zgZ ?_
      exact⟨i+1,aI qsZ,⟨by omega,hr⟩,by omega⟩
 ·obtain rfl:i=vf.length:=by omega
  rw[List.drop_length,List.all_nil,Bool.true_and] at hr
  subst hr
  simp(disch:=try exact dI) only[VH,push_cast,seval]
  refine ab.pure hla rfl ?_
  exact qsZ
theorem Ko:∀ n,r9 n
 | 0=>fun _ _ h=>h.elim
 | n+1=>fun t v h=>by
   have ih:=Ko n
   simp only[rr] at h
   obtain⟨⟨N,hs⟩,_,hw,hv,hl,hf,h⟩:=h
   by_cases hk:v.kind=t.kind
   ·have h:=h hk
    obtain⟨k,m,M,s,w,e,f⟩:=t
    obtain⟨vk,vn,vs,vt,vl,vf⟩:=v
    simp only[Val.kind,Typ.kind,Typ.words,Val.lst,Val.fields,Val.text,Typ.elem] at hk h hw hl hf
    subst hk
    obtain⟨_,h8,h10,h9⟩:=h
    by_cases h1:vk=2\/vk=6\/vk=7\/vk=3
    ·exact zq n _ _ _ _ _ _ _ _ _ _ _ _ h1
    by_cases h4:vk=4
    ·subst h4;exact IE n _ _ _ _ _ _ _ _ _ _ _ hw
    by_cases h5:vk=5
    ·subst h5;exact ID n _ _ _ _ _ _ _ _ _ _ _
    by_cases h8':vk=8
    ·subst h8';exact IC n ih _ _ _ _ _ _ _ _ _ _ _ hl (h8 rfl)
    by_cases h10':vk=10
    ·subst h10';exact D7 n ih _ _ _ _ _ _ _ _ _ _ _ N hs (h10 rfl)
    by_cases h9':vk=9
    ·subst h9';exact IB n ih _ _ _ _ _ _ _ _ _ _ _ N hs hv hf (h9 rfl)
    exact tS n _ _ _ _ _ _ _ _ _ _ _ _ h1 h4 h5 h8' h10' h9'
   ·exact D6 n t v hk
