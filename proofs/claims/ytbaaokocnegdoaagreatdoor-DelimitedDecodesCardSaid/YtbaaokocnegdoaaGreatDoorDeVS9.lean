/- A part of the proof. -/
import Derived.Test.YtbaaokocnegdoaaGreatDoorDeVS5
import Derived.Test.YtbaaokocnegdoaaGreatDoorDeWC
set_option linter.unusedVariables false
set_option linter.unusedSimpArgs false
set_option maxHeartbeats 16000000
set_option maxRecDepth 100000
namespace Go.Proofs.YtbaaokocnegdoaaGreatDoor
open Go Go.Ab
attribute [local irreducible] vc
theorem Jq (w:List (List UInt8))(hw:w.length<=1000000000):ak Tryz.prog aq 297 [.list (w.map PV.str)] (.list (w.map PV.str)):=by
 refine ak.intro Sc.2 (by simp[Sc]) ?_
 cases w with
 | nil=>
   simp(disch:=try exact dI) only[Sc,push_cast,seval]
   intro b
   cases b<;>simp(disch:=try exact dI) only[push_cast,seval]
 | cons x r=>
   rw[List.length_cons] at hw
   simp(disch:=try exact dI) only[Sc,push_cast,seval]
theorem vI (n:Int)(nm:List UInt8)(nd k m M s:Int)(w:List (List UInt8))(e:List Typ)(f:List TFd)(d:List Val)(hT:ak Tryz.prog aq 296 [(Typ.mk k m M s w e f).pv] (Typ.mk k m M s w e f).pv)(hd:d.length<=1000000000)(hv:∀ v∈d,v.ok) :
  ak Tryz.prog aq 295 [(TFd.mk n nm nd (Typ.mk k m M s w e f) d).pv] (TFd.mk n nm nd (Typ.mk k m M s w e f) d).pv:=by
 simp only[Typ.pv_mk] at hT
 refine ak.intro TL.2 (by simp[TL]) ?_
 simp(disch:=try exact dI) only[TL,TFd.pv_mk,Typ.pv_mk,ag,push_cast,seval]
 refine ab.pure hT rfl ?_
 refine zgZ ?_
 refine ap ([]) (fun i:Nat=>[(17,.pv (.int .i64 (i:Int))),(3,.olist 2 6 ((d.take i).map Val.pv))]) (fun _=>[]) (fun i=>i<=d.length) (fun i=>d.length - i) (0) ?_;intro e0 σ0 n0 h0;simp(disch:=try exact dI) only[push_cast,seval] at h0;obtain⟨rfl,rfl,rfl⟩:=h0;refine⟨?_,?_,?_⟩
 ·exact qsZ
 ·omega
 intro i hi
 by_cases hlt:i<d.length
 ·have hltI:(i:Int)<(d.length:Int):=by omega
  obtain⟨x,hx⟩:∃ x,d[i]? = some x:=⟨_,List.getElem?_eq_getElem hlt⟩
  have hc:=ix _ x (Nat.lt_succ_self _) (hv x (List.mem_of_getElem? hx))
  have hts:=aD hx
  have hlt2:(d.take i).length=i:=by rw[List.length_take];omega
  obtain⟨vk,vn,vs,vt,vl,vf⟩:=x
  simp only[Val.pv_mk] at hc
  simp(disch:=try exact dI) only[hx,Option.map_some,Val.pv_mk,push_cast,seval]
  refine ab.pure hc rfl ?_
  simp(disch:=try exact dI) only[hlt2,push_cast,seval]
  exact⟨i+1,aK (by simp(disch:=try exact dI) only[hts,List.map_append,Val.pv_mk,push_cast,seval]),by omega,by omega⟩
 ·obtain rfl:i=d.length:=by omega
  simp(disch:=try exact dI) only[List.take_length,Int.lt_irrefl,push_cast,seval]
def cB:Nat->Typ->Prop
 | 0,_=>False
 | n+1,.mk k m M s w e f=>w.length<=1000000000/\e.length<=1000000000/\f.length<=1000000000/\(∀ x∈e,cB n x)/\∀ g∈f,g.dflt.length<=1000000000/\(∀ v∈g.dflt,v.ok)/\cB n g.typ
theorem vH:∀ (n:Nat) (t:Typ),cB n t->ak Tryz.prog aq 296 [t.pv] t.pv
 | 0,_,h=>h.elim
 | n+1,.mk k m M s w e f,h=>by
   have ih:=vH n
   simp only[cB] at h
   obtain⟨hw,hel,hfl,he,hf⟩:=h
   have h297:=Jq w hw
   refine ak.intro TK.2 (by simp[TK]) ?_
   simp(disch:=try exact dI) only[TK,Typ.pv_mk,push_cast,seval]
   refine ap ([]) (fun i:Nat=>[(16,.pv (.int .i64 (i:Int))),(3,.olist 2 7 ((e.take i).map Typ.pv))]) (fun _=>[]) (fun i=>i<=e.length) (fun i=>e.length - i) (0) ?_;intro e0 σ0 n0 h0;simp(disch:=try exact dI) only[push_cast,seval] at h0;obtain⟨rfl,rfl,rfl⟩:=h0;refine⟨?_,?_,?_⟩
   ·exact qsZ
   ·omega
   intro i hi
   by_cases hlt:i<e.length
   ·have hltI:(i:Int)<(e.length:Int):=by omega
    obtain⟨x,hx⟩:∃ x,e[i]? = some x:=⟨_,List.getElem?_eq_getElem hlt⟩
    have hc:=ih x (he x (List.mem_of_getElem? hx))
    have hts:=aD hx
    have hlt2:(e.take i).length=i:=by rw[List.length_take];omega
    obtain⟨k',m',M',s',w',e',f'⟩:=x
    simp only[Typ.pv_mk] at hc
    simp(disch:=try exact dI) only[hx,Option.map_some,Typ.pv_mk,ag,push_cast,seval]
    refine ab.pure hc rfl ?_
    simp(disch:=try exact dI) only[hlt2,push_cast,seval]
    exact⟨i+1,aK (by simp(disch:=try exact dI) only[hts,List.map_append,Typ.pv_mk,push_cast,seval]),by omega,by omega⟩
   obtain rfl:i=e.length:=by omega
   clear hi hlt
   simp(disch:=try exact dI) only[List.take_length,Int.lt_irrefl,push_cast,seval]
   refine ap ([]) (fun i:Nat=>[(33,.pv (.int .i64 (i:Int))),(6,.olist 3 11 ((f.take i).map TFd.pv))]) (fun _=>[]) (fun i=>i<=f.length) (fun i=>f.length - i) (0) ?_;intro e0 σ0 n0 h0;simp(disch:=try exact dI) only[push_cast,seval] at h0;obtain⟨rfl,rfl,rfl⟩:=h0;refine⟨?_,?_,?_⟩
   ·exact qsZ
   ·omega
   intro i hi
   by_cases hlt:i<f.length
   ·have hltI:(i:Int)<(f.length:Int):=by omega
    obtain⟨x,hx⟩:∃ x,f[i]? = some x:=⟨_,List.getElem?_eq_getElem hlt⟩
    obtain⟨hdl,hdv,hds⟩:=hf x (List.mem_of_getElem? hx)
    have hts:=aD hx
    have hlt2:(f.take i).length=i:=by rw[List.length_take];omega
    obtain⟨n',nm',nd',⟨k',m',M',s',w',e',f'⟩,d'⟩:=x
    have hc:=vI n' nm' nd' k' m' M' s' w' e' f' d' (ih _ hds) hdl hdv
    simp only[TFd.pv_mk,Typ.pv_mk,ag] at hc
    simp(disch:=try exact dI) only[hx,Option.map_some,TFd.pv_mk,Typ.pv_mk,ag,push_cast,seval]
    refine ab.pure hc rfl ?_
    simp(disch:=try exact dI) only[hlt2,push_cast,seval]
    exact⟨i+1,aK (by simp(disch:=try exact dI) only[hts,List.map_append,TFd.pv_mk,Typ.pv_mk,ag,push_cast,seval]),by omega,by omega⟩
   obtain rfl:i=f.length:=by omega
   clear hi hlt
   simp(disch:=try exact dI) only[List.take_length,Int.lt_irrefl,push_cast,seval]
   refine ab.pure h297 rfl ?_
   exact qsZ
theorem Q3 (x:TFd)(name:List UInt8):ak Tryz.prog aq 285 [x.pv,.eptr [.str name] 0 0] (.bool (named name x)):=by
 obtain⟨a,b,c,⟨k,m,n,s,w,e,fs⟩,d⟩:=x
 refine ak.intro TP.2 (by simp[TP]) ?_
 simp(disch:=try exact dI) only[TP,TFd.pv_mk,Typ.pv_mk,named,TFd.name,push_cast,seval]
 exact decide_eq_decide.2 Iff.rfl
theorem pa {n:Nat}{k m M s:Int}{w:List (List UInt8)}{e:List Typ}{f:List TFd}(h:cB (n+1) (.mk k m M s w e f)){x:TFd}(hx:x∈f):ak Tryz.prog aq 295 [x.pv] x.pv:=by
 simp only[cB] at h
 obtain⟨h1,h2,h3⟩:=h.2.2.2.2 x hx
 obtain⟨n',nm',nd',⟨k',m',M',s',w',e',f'⟩,d'⟩:=x
 exact vI _ _ _ _ _ _ _ _ _ _ _ (vH n _ h3) h1 h2
def bt (t:Typ)(name:List UInt8):Option TFd:=if t.kind=9\/t.kind=10 then t.fields.find? (named name) else none
theorem NH (n:Nat)(t:Typ)(name:List UInt8)(h:cB n t):ak Tryz.prog aq 284 [t.pv,.clo 285 [] [.eptr [.str name] 0 0]] (tfR (bt t name)):=by
 cases n with
 | zero=>exact h.elim
 | succ n=>
 obtain⟨k,m,M,s,w,e,f⟩:=t
 have hcl:=fun x hx=>pa h (x:=x) hx
 have hfl:f.length<=1000000000:=by simp only[cB] at h;exact h.2.2.1
 clear h
 have h147:=DL f 285 [.eptr [.str name] 0 0] (named name) (fun x _=>Q3 x name) (by omega)
 refine ak.intro RM.2 (by simp[RM]) ?_
 by_cases hk:k=9\/k=10
 ·rw[show bt (.mk k m M s w e f) name=f.find? (named name) from if_pos hk]
  rcases ck (p:=named name) f 0 with ⟨h1,h2⟩ | ⟨i,x,h1,h2,h3⟩
  ·rw[h1]
   rw[h2] at h147
   rcases hk with rfl | rfl
   all_goals
    simp(disch:=try exact dI) only[RM,Typ.pv_mk,push_cast,seval]
    refine ab.pure h147 rfl ?_
    simp(disch:=try exact dI) only[tfR,Option.getD_none,Option.isSome_none,mA,TFd.pv_mk,Typ.pv_mk,ag,push_cast,seval]
  ·rw[h2]
   rw[h3,Nat.zero_add] at h147
   have hc:=hcl x (List.mem_of_getElem? h1)
   obtain⟨x1,x2,x3,⟨y1,y2,y3,y4,y5,y6,y7⟩,x5⟩:=x
   simp only[TFd.pv_mk,Typ.pv_mk,ag] at hc
   have hi:¬ (i:Int)<0:=by omega
   rcases hk with rfl | rfl
   all_goals
    simp(disch:=try exact dI) only[RM,Typ.pv_mk,push_cast,seval]
    refine ab.pure h147 rfl ?_
    simp(disch:=try exact dI) only[h1,Option.map_some,TFd.pv_mk,Typ.pv_mk,ag,push_cast,seval]
    refine ab.pure hc rfl ?_
    simp(disch:=try exact dI) only[tfR,Option.getD_some,Option.isSome_some,TFd.pv_mk,Typ.pv_mk,ag,push_cast,seval]
 ·rw[show bt (.mk k m M s w e f) name=none from if_neg hk]
  have h9:¬ k=9:=by omega
  have h10:¬ k=10:=by omega
  simp(disch:=try exact dI) only[RM,Typ.pv_mk,tfR,Option.getD_none,Option.isSome_none,mA,TFd.pv_mk,ag,push_cast,seval]
theorem vu (n:Nat)(t:Typ)(name:List UInt8)(h:cB n t):ak Tryz.prog aq 247 [t.pv,.str name] (tfR (bt t name)):=by
 have hf:=NH n t name h
 generalize bt t name=o at hf ⊢
 obtain⟨k,m,M,s,w,e,f⟩:=t
 simp only[Typ.pv_mk] at hf
 refine ak.intro Sf.2 (by simp[Sf]) ?_
 cases o with
 | none=>
   simp only[tfR,Option.getD_none,Option.isSome_none,mA,TFd.pv_mk,Typ.pv_mk,ag] at hf ⊢
   simp(disch:=try exact dI) only[Sf,Typ.pv_mk,push_cast,seval]
   refine ab.pure hf rfl ?_
   exact qsZ
 | some x=>
   obtain⟨x1,x2,x3,⟨y1,y2,y3,y4,y5,y6,y7⟩,x5⟩:=x
   simp only[tfR,Option.getD_some,Option.isSome_some,TFd.pv_mk,Typ.pv_mk,ag] at hf ⊢
   simp(disch:=try exact dI) only[Sf,Typ.pv_mk,push_cast,seval]
   refine ab.pure hf rfl ?_
   exact qsZ
theorem ID (l:List Val)(g:Nat)(cs:List PV)(q:Val->Bool)(hq:∀ x∈l,ak Tryz.prog aq g (x.pv::cs) (.bool (q x)))(hl:l.length<=1000000000) :
  ak Tryz.prog aq 283 [.list (l.map Val.pv),.clo g [] cs] (.int .i64 (eZ q l 0)):=by
 refine ak.intro TQ.2 (by simp[TQ]) ?_
 simp(disch:=try exact dI) only[TQ,push_cast,seval]
 refine ap ([]) (fun m:Nat=>[(8,.pv (.int .i64 (m:Int)))]) (fun m=>[]) (fun m=>m<=l.length/\eZ q l 0=eZ q (l.drop m) m) (fun m=>l.length - m) (0) ?_;intro e0 σ0 n0 h0;simp(disch:=try exact dI) only[push_cast,seval] at h0;obtain⟨rfl,rfl,rfl⟩:=h0;refine⟨?_,?_,?_⟩
 ·exact qsZ
 ·exact⟨by omega,by simp⟩
 ·rintro m ⟨hm,he⟩
  by_cases hlt:m<l.length
  ·have hltI:(m:Int)<l.length:=by omega
   obtain⟨x,hx⟩:∃ x,l[m]? = some x:=⟨_,List.getElem?_eq_getElem hlt⟩
   have hcall:=hq x (List.mem_of_getElem? hx)
   have hcl:x.pv.cells.length=6:=by cases x;rw[Val.pv_mk];rfl
   have hag:x.pv.isAgg=true:=by cases x;rw[Val.pv_mk];rfl
   simp(disch:=try exact dI) only[hx,hcl,hag,push_cast,seval]
   refine ab.pure hcall (by exact pD (x.pv::cs)) ?_
   cases hqx:q x with
   | true=>
     rw[he,fq hx hqx]
     exact qsZ
   | false=>
     rw[dG hx hqx] at he
     refine zgZ ?_
     exact⟨m+1,aK qsZ,⟨by omega,he⟩,by omega⟩
  ·have hltI:¬ (m:Int)<l.length:=by omega
   rw[he,ft hlt]
   exact qsZ
theorem tG (l:List Val)(g:Nat)(cs:List PV)(q:Val->Bool)(hq:∀ x∈l,ak Tryz.prog aq g (x.pv::cs) (.bool (q x)))(hl:l.length<=1000000000) :
  ak Tryz.prog aq 245 [.list (l.map Val.pv),.clo g [] cs] (.bool (l.any q)):=by
 have h94:=ID l g cs q hq hl
 have hfa:=io (p:=q) l
 refine ak.intro Sg.2 (by simp[Sg]) ?_
 rcases ck (p:=q) l 0 with ⟨h1,h2⟩ | ⟨k,x,h1,h2,h3⟩
 ·rw[h2] at h94
  rw[h1] at hfa
  rw[<- hfa]
  simp(disch:=try exact dI) only[Sg,push_cast,seval]
  refine ab.pure h94 rfl ?_
  refine zgZ ?_
  exact .refl _
 ·rw[h3] at h94
  rw[h2] at hfa
  rw[<- hfa]
  have hk:(0:Int)<=((0+k:Nat):Int):=by omega
  generalize ((0+k:Nat):Int)=z at *
  simp(disch:=try exact dI) only[Sg,push_cast,seval]
  refine ab.pure h94 rfl ?_
  refine zgZ ?_
  exact .refl _
def jF (v:Val):TFd->Bool
 | .mk _ nm nd _ _=>(v.fields.find? (cJ nm)).isNone&&!decide (nd=2)
theorem Q4 (v:Val)(g:TFd)(hv:v.ok)(hk:v.kind=9)(h:v.fields.length<=1000000):ak Tryz.prog aq 248 [g.pv,.eptr [v.pv] 0 0] (.bool (jF v g)):=by
 obtain⟨n',nm',nd',⟨k',m',M',s',w',e',f'⟩,d'⟩:=g
 have h52:=Je v nm' hv hk h
 simp only[jF]
 generalize v.fields.find? (cJ nm')=o at h52 ⊢
 obtain⟨vk,vn,vs,vt,vl,vf⟩:=v
 simp only[Val.pv_mk] at h52
 refine ak.intro RR.2 (by simp[RR]) ?_
 cases o with
 | none=>
   simp only[vlR,Option.map_none,Option.getD_none,Option.isSome_none,Option.isNone_none,aI,Val.pv_mk] at h52 ⊢
   by_cases hnd:nd'=2
   ·simp(disch:=try exact dI) only[RR,Val.pv_mk,TFd.pv_mk,Typ.pv_mk,ag,push_cast,seval]
    refine ab.pure h52 rfl ?_
    simp(disch:=try exact dI) only[hnd,push_cast,seval]
   ·simp(disch:=try exact dI) only[RR,Val.pv_mk,TFd.pv_mk,Typ.pv_mk,ag,push_cast,seval]
    refine ab.pure h52 rfl ?_
    simp(disch:=try exact dI) only[hnd,push_cast,seval]
 | some x=>
   obtain⟨xn,⟨xk,xi,xs,xt,xl,xf⟩⟩:=x
   simp only[vlR,Option.map_some,Option.getD_some,Option.isSome_some,Option.isNone_some,Fld.value,Val.pv_mk] at h52 ⊢
   simp(disch:=try exact dI) only[RR,Val.pv_mk,TFd.pv_mk,Typ.pv_mk,ag,push_cast,seval]
   refine ab.pure h52 rfl ?_
   exact qsZ
def yx (p:Typ->Bool):List Typ->Bool
 | []=>false
 | x::_=>p x
def oj (p:Val->Bool):List Val->Bool
 | []=>false
 | x::_=>p x
def Lj (p:Typ->Val->Bool)(l:List Val):Option TFd->Bool
 | none=>false
 | some g=>oj (p g.typ) l
def wS (p:Typ->Val->Bool)(v:Val):Option TFd->Bool
 | none=>false
 | some g=>p g.typ v
def ON (t:Typ)(v:Val):Bool:=inB v.num t.min t.max&&decide (v.scale=t.scale)
def Pg (t:Typ)(v:Val):Bool:=if 0<t.words.length then t.words.any fun x=>decide (x=v.text) else inB v.text.length t.min t.max
def qF (p:Typ->Val->Bool)(t:Typ)(v:Val):Bool:=
 if t.kind=2\/t.kind=6\/t.kind=7\/t.kind=3 then ON t v else if t.kind=4 then Pg t v else if t.kind=5 then inB v.text.length t.min t.max
 else if t.kind=8 then inB v.lst.length t.min t.max&&!(v.lst.any fun x=>!(yx (fun e=>p e x) t.elem)) else if t.kind=10 then Lj p v.lst (bt t v.text)
 else if t.kind=9 then (v.fields.all fun x=>wS p x.value (bt t x.name))&&!(t.fields.any (jF v)) else true
def bm:Nat->Typ->Val->Bool
 | 0,_,_=>false
 | n+1,t,v=>decide (v.kind=t.kind)&&qF (bm n) t v
def qE:Nat->Typ->Val->Prop
 | 0,_,_=>False
 | n+1,t,v=>(∃ N,cB N t)/\(1<=t.kind/\t.kind<=10)/\t.words.length<=1000000/\v.ok/\v.lst.length<=1000000000/\v.fields.length<=1000000/\(v.kind=t.kind ->
   (t.kind=2\/t.kind=6\/t.kind=7->v.scale=t.scale)/\(t.kind=8->∀ y∈v.lst,∃ x r,t.elem=x::r/\qE n x y)/\(t.kind=10->∀ g,bt t v.text=some g->∃ y r,v.lst=y::r/\qE n g.typ y)/\(t.kind=9->∀ x∈v.fields,∀ g,bt t x.name=some g->qE n g.typ x.value))
def rt (n:Nat):Prop:=∀ t v,qE n t v->ak Tryz.prog aq 193 [t.pv,v.pv] (.bool (bm n t v))
theorem DX (n:Nat)(t:Typ)(v:Val)(h:¬ v.kind=t.kind):ak Tryz.prog aq 193 [t.pv,v.pv] (.bool (bm (n+1) t v)):=by
 rw[show bm (n+1) t v=false by simp[bm,h]]
 obtain⟨k,m,M,s,w,e,f⟩:=t
 obtain⟨vk,vn,vs,vt,vl,vf⟩:=v
 simp only[Val.kind,Typ.kind] at h
 refine ak.intro gG.2 (by simp[gG]) ?_
 simp(disch:=try exact dI) only[gG,Typ.pv_mk,Val.pv_mk,push_cast,seval]
theorem yz (n:Nat)(k m M s:Int)(w:List (List UInt8))(e:List Typ)(f:List TFd)(vn vs:Int)(vt:List UInt8)(vl:List Val)(vf:List Fld)(hk:k=2\/k=6\/k=7\/k=3):ak Tryz.prog aq 193 [(Typ.mk k m M s w e f).pv,(Val.mk k vn vs vt vl vf).pv] (.bool (bm (n+1) (.mk k m M s w e f) (.mk k vn vs vt vl vf))):=by
 have hi:=qC vn m M
 rw[show bm (n+1) (.mk k m M s w e f) (.mk k vn vs vt vl vf)=(inB vn m M&&decide (vs=s)) by simp[bm,qF,Typ.kind,Val.kind,hk,ON,Val.num,Typ.min,Typ.max,Val.scale,Typ.scale];rfl]
 generalize inB vn m M=b at hi ⊢
 by_cases hs:vs=s
 ·rcases hk with rfl | rfl | rfl | rfl
  all_goals
   refine ak.intro gG.2 (by simp[gG]) ?_
   simp(disch:=try exact dI) only[gG,Typ.pv_mk,Val.pv_mk,push_cast,seval]
   refine ab.pure hi rfl ?_
   cases b with
   | false=>simp(disch:=try exact dI) only[push_cast,seval]
   | true=>simp(disch:=try exact dI) only[hs,push_cast,seval]
 ·rcases hk with rfl | rfl | rfl | rfl
  all_goals
   refine ak.intro gG.2 (by simp[gG]) ?_
   simp(disch:=try exact dI) only[gG,Typ.pv_mk,Val.pv_mk,push_cast,seval]
   refine ab.pure hi rfl ?_
   cases b with
   | false=>simp(disch:=try exact dI) only[push_cast,seval]
   | true=>simp(disch:=try exact dI) only[hs,push_cast,seval]
theorem IY (n:Nat)(m M s:Int)(w:List (List UInt8))(e:List Typ)(f:List TFd)(vn vs:Int)(vt:List UInt8)(vl:List Val)(vf:List Fld)(hw:w.length<=1000000):ak Tryz.prog aq 193 [(Typ.mk 4 m M s w e f).pv,(Val.mk 4 vn vs vt vl vf).pv] (.bool (bm (n+1) (.mk 4 m M s w e f) (.mk 4 vn vs vt vl vf))):=by
 have hi:=qC vt.length m M
 have hc:=nr w vt hw
 rw[show bm (n+1) (.mk 4 m M s w e f) (.mk 4 vn vs vt vl vf)=if 0<w.length then w.any (fun x=>decide (x=vt)) else inB vt.length m M by simp[bm,qF,Typ.kind,Val.kind,Pg,Val.text,Typ.min,Typ.max,Typ.words];rfl]
 refine ak.intro gG.2 (by simp[gG]) ?_
 by_cases h0:0<w.length
 ·have h0I:(0:Int)<(w.length:Int):=by omega
  rw[if_pos h0]
  generalize w.any (fun x=>decide (x=vt))=b at hc ⊢
  simp(disch:=try exact dI) only[gG,Typ.pv_mk,Val.pv_mk,push_cast,seval]
  refine ab.pure hc rfl ?_
  exact qsZ
 ·have h0I:¬ (0:Int)<(w.length:Int):=by omega
  rw[if_neg h0]
  generalize inB vt.length m M=b at hi ⊢
  simp(disch:=try exact dI) only[gG,Typ.pv_mk,Val.pv_mk,push_cast,seval]
  refine ab.pure hi rfl ?_
  exact qsZ
theorem IX (n:Nat)(m M s:Int)(w:List (List UInt8))(e:List Typ)(f:List TFd)(vn vs:Int)(vt:List UInt8)(vl:List Val)(vf:List Fld):ak Tryz.prog aq 193 [(Typ.mk 5 m M s w e f).pv,(Val.mk 5 vn vs vt vl vf).pv] (.bool (bm (n+1) (.mk 5 m M s w e f) (.mk 5 vn vs vt vl vf))):=by
 have hi:=qC vt.length m M
 rw[show bm (n+1) (.mk 5 m M s w e f) (.mk 5 vn vs vt vl vf)=inB vt.length m M by simp[bm,qF,Typ.kind,Val.kind,Val.text,Typ.min,Typ.max]]
 generalize inB vt.length m M=b at hi ⊢
 refine ak.intro gG.2 (by simp[gG]) ?_
 simp(disch:=try exact dI) only[gG,Typ.pv_mk,Val.pv_mk,push_cast,seval]
 refine ab.pure hi rfl ?_
 exact qsZ
theorem Q5 (n:Nat)(ih:rt n)(m M s:Int)(w:List (List UInt8))(x:Typ)(r:List Typ)(f:List TFd)(y:Val)(h:qE n x y):ak Tryz.prog aq 246 [y.pv,.eptr [(Typ.mk 8 m M s w (x::r) f).pv] 0 0] (.bool (!bm n x y)):=by
 have hc:=ih x y h
 generalize bm n x y=b at hc ⊢
 obtain⟨k',m',M',s',w',e',f'⟩:=x
 obtain⟨vk,vn,vs,vt,vl,vf⟩:=y
 simp only[Typ.pv_mk,Val.pv_mk] at hc
 refine ak.intro T3.2 (by simp[T3]) ?_
 simp(disch:=try exact dI) only[T3,Typ.pv_mk,Val.pv_mk,az,push_cast,seval]
 refine ab.pure hc rfl ?_
 exact qsZ
theorem IW (n:Nat)(ih:rt n)(m M s:Int)(w:List (List UInt8))(e:List Typ)(f:List TFd)(vn vs:Int)(vt:List UInt8)(vl:List Val)(vf:List Fld)(hl:vl.length<=1000000000)(h:∀ y∈vl,∃ x r,e=x::r/\qE n x y):ak Tryz.prog aq 193 [(Typ.mk 8 m M s w e f).pv,(Val.mk 8 vn vs vt vl vf).pv] (.bool (bm (n+1) (.mk 8 m M s w e f) (.mk 8 vn vs vt vl vf))):=by
 have hi:=qC vl.length m M
 have hc:=tG vl 246 [.eptr [(Typ.mk 8 m M s w e f).pv] 0 0] (fun x=>!(yx (fun e=>bm n e x) e)) (fun y hy=>by
  obtain⟨x,r,rfl,hx⟩:=h y hy
  exact Q5 n ih m M s w x r f y hx) hl
 rw[show bm (n+1) (.mk 8 m M s w e f) (.mk 8 vn vs vt vl vf)=(inB vl.length m M&&!(vl.any (fun x=>!(yx (fun e=>bm n e x) e)))) by simp[bm,qF,Typ.kind,Val.kind,Val.lst,Typ.min,Typ.max,Typ.elem]]
 generalize inB vl.length m M=b at hi ⊢
 generalize vl.any (fun x=>!(yx (fun e=>bm n e x) e))=q at hc ⊢
 simp only[Typ.pv_mk] at hc
 refine ak.intro gG.2 (by simp[gG]) ?_
 simp(disch:=try exact dI) only[gG,Typ.pv_mk,Val.pv_mk,push_cast,seval]
 refine ab.pure hi rfl ?_
 cases b with
 | false=>simp(disch:=try exact dI) only[push_cast,seval]
 | true=>
   refine zgZ ?_
   refine ab.pure hc rfl ?_
   exact qsZ
theorem DY (n:Nat)(ih:rt n)(m M s:Int)(w:List (List UInt8))(e:List Typ)(f:List TFd)(vn vs:Int)(vt:List UInt8)(vl:List Val)(vf:List Fld)(N:Nat)(hs:cB N (.mk 10 m M s w e f))
  (h:∀ g,bt (.mk 10 m M s w e f) vt=some g->∃ y r,vl=y::r/\qE n g.typ y):ak Tryz.prog aq 193 [(Typ.mk 10 m M s w e f).pv,(Val.mk 10 vn vs vt vl vf).pv] (.bool (bm (n+1) (.mk 10 m M s w e f) (.mk 10 vn vs vt vl vf))):=by
 have hc:=vu N _ vt hs
 rw[show bm (n+1) (.mk 10 m M s w e f) (.mk 10 vn vs vt vl vf)=Lj (bm n) vl (bt (.mk 10 m M s w e f) vt) by simp[bm,qF,Typ.kind,Val.kind,Val.lst,Val.text]]
 generalize bt (.mk 10 m M s w e f) vt=o at hc h ⊢
 simp only[Typ.pv_mk] at hc
 cases o with
 | none=>
   simp only[tfR,Option.getD_none,Option.isSome_none,mA,TFd.pv_mk,Typ.pv_mk,ag,Lj] at hc ⊢
   refine ak.intro gG.2 (by simp[gG]) ?_
   simp(disch:=try exact dI) only[gG,Typ.pv_mk,Val.pv_mk,push_cast,seval]
   refine ab.pure hc rfl ?_
   exact qsZ
 | some g=>
   obtain⟨y,r,rfl,hy⟩:=h g rfl
   have hh:=ih _ _ hy
   obtain⟨n',nm',nd',⟨k',m',M',s',w',e',f'⟩,d'⟩:=g
   simp only[TFd.typ,Lj,oj] at hh ⊢
   generalize bm n (.mk k' m' M' s' w' e' f') y=b at hh ⊢
   obtain⟨yk,yn,ys,yt,yl,yf⟩:=y
   simp only[tfR,Option.getD_some,Option.isSome_some,TFd.pv_mk,Typ.pv_mk,Val.pv_mk,ag] at hc hh ⊢
   refine ak.intro gG.2 (by simp[gG]) ?_
   simp(disch:=try exact dI) only[gG,Typ.pv_mk,Val.pv_mk,az,push_cast,seval]
   refine ab.pure hc rfl ?_
   simp(disch:=try exact dI) only[az,Val.pv_mk,push_cast,seval]
   refine ab.pure hh rfl ?_
   exact qsZ
theorem tk (n:Nat)(k m M s:Int)(w:List (List UInt8))(e:List Typ)(f:List TFd)(vn vs:Int)(vt:List UInt8)(vl:List Val)(vf:List Fld)(h1:¬ (k=2\/k=6\/k=7\/k=3))(h4:¬ k=4)(h5:¬ k=5)(h8:¬ k=8)(h10:¬ k=10)(h9:¬ k=9):ak Tryz.prog aq 193 [(Typ.mk k m M s w e f).pv,(Val.mk k vn vs vt vl vf).pv] (.bool (bm (n+1) (.mk k m M s w e f) (.mk k vn vs vt vl vf))):=by
 rw[show bm (n+1) (.mk k m M s w e f) (.mk k vn vs vt vl vf)=true by simp[bm,qF,Typ.kind,Val.kind,h1,h4,h5,h8,h9,h10]]
 have a2:¬ k=2:=by omega
 have a6:¬ k=6:=by omega
 have a7:¬ k=7:=by omega
 have a3:¬ k=3:=by omega
 refine ak.intro gG.2 (by simp[gG]) ?_
 simp(disch:=try exact dI) only[gG,Typ.pv_mk,Val.pv_mk,push_cast,seval]
theorem v8 {α:Type}{p:α->Bool}{l:List α}{i:Nat}{x:α}(h:l[i]? = some x):(l.drop i).all p=(p x&&(l.drop (i+1)).all p):=by
 have hi:=(List.getElem?_eq_some_iff.1 h).1
 have he:l[i]=x:=(List.getElem?_eq_some_iff.1 h).2
 rw[List.drop_eq_getElem_cons hi,he,List.all_cons]
theorem IV (n:Nat)(ih:rt n)(m M s:Int)(w:List (List UInt8))(e:List Typ)(f:List TFd)(vn vs:Int)(vt:List UInt8)(vl:List Val)(vf:List Fld)(N:Nat)(hs:cB N (.mk 9 m M s w e f))(hv:(Val.mk 9 vn vs vt vl vf).ok)(hvf:vf.length<=1000000)
  (h:∀ x∈vf,∀ g,bt (.mk 9 m M s w e f) x.name=some g->qE n g.typ x.value):ak Tryz.prog aq 193 [(Typ.mk 9 m M s w e f).pv,(Val.mk 9 vn vs vt vl vf).pv] (.bool (bm (n+1) (.mk 9 m M s w e f) (.mk 9 vn vs vt vl vf))):=by
 have hfl:f.length<=1000000000:=by
  cases N with
  | zero=>exact hs.elim
  | succ N=>simp only[cB] at hs;exact hs.2.2.1
 have hfld:=fun nm=>vu N _ nm hs
 have hla:=nt f 248 [.eptr [(Val.mk 9 vn vs vt vl vf).pv] 0 0] (jF (.mk 9 vn vs vt vl vf)) (fun g _=>Q4 _ g hv rfl hvf) hfl
 rw[show bm (n+1) (.mk 9 m M s w e f) (.mk 9 vn vs vt vl vf)=((vf.all fun x=>wS (bm n) x.value (bt (.mk 9 m M s w e f) x.name))&&!(f.any (jF (.mk 9 vn vs vt vl vf)))) by simp[bm,qF,Typ.kind,Val.kind,Val.fields,Typ.fields]]
 generalize f.any (jF (.mk 9 vn vs vt vl vf))=q at hla ⊢
 obtain⟨T,hT⟩:∃ T,T=bt (.mk 9 m M s w e f):=⟨_,rfl⟩
 rw[<- hT] at h ⊢
 have hfld:∀ nm,ak Tryz.prog aq 247 [(Typ.mk 9 m M s w e f).pv,.str nm] (tfR (T nm)):=fun nm=>by rw[hT];exact hfld nm
 clear hT
 simp only[Typ.pv_mk,Val.pv_mk] at hfld hla
 obtain⟨p,hp⟩:∃ p:Fld->Bool,p=fun x=>wS (bm n) x.value (T x.name):=⟨_,rfl⟩
 rw[<- hp]
 obtain⟨R,hR⟩:∃ R,R=(vf.all p&&!q):=⟨_,rfl⟩
 rw[<- hR]
 refine ak.intro gG.2 (by simp[gG]) ?_
 simp(disch:=try exact dI) only[gG,Typ.pv_mk,Val.pv_mk,push_cast,seval]
 refine ap ([]) (fun i:Nat=>[(107,.pv (.int .i64 (i:Int)))]) (fun _=>[]) (fun i=>i<=vf.length/\R=((vf.drop i).all p&&!q)) (fun i=>vf.length - i) (0) ?_;intro e0 σ0 n0 h0;simp(disch:=try exact dI) only[push_cast,seval] at h0;obtain⟨rfl,rfl,rfl⟩:=h0;refine⟨?_,?_,?_⟩
 ·exact qsZ
 ·exact⟨by omega,by simpa using hR⟩
 rintro i ⟨hi,hr⟩
 by_cases hlt:i<vf.length
 ·have hltI:(i:Int)<(vf.length:Int):=by omega
  obtain⟨x,hx⟩:∃ x,vf[i]? = some x:=⟨_,List.getElem?_eq_getElem hlt⟩
  rw[v8 hx] at hr
  have hph:=h x (List.mem_of_getElem? hx)
  have hc:=hfld x.name
  rw[show p x=wS (bm n) x.value (T x.name) by rw[hp]] at hr
  generalize T x.name=o at hph hc hr
  obtain⟨xn,y⟩:=x
  simp only[Fld.name,Fld.value] at hph hc hr
  cases o with
  | none=>
    simp only[wS,Bool.false_and] at hr
    subst hr
    obtain⟨yk,yn,ys,yt,yl,yf⟩:=y
    simp only[tfR,Option.getD_none,Option.isSome_none,mA,TFd.pv_mk,Typ.pv_mk,ag] at hc
    simp(disch:=try exact dI) only[hx,Option.map_some,Fld.pv_mk,Val.pv_mk,ag,push_cast,seval]
    refine ab.pure hc rfl ?_
    exact qsZ
  | some g=>
    have hh:=ih _ _ (hph g rfl)
    simp only[wS] at hr
    obtain⟨n',nm',nd',⟨k',m',M',s',w',e',f'⟩,d'⟩:=g
    simp only[TFd.typ] at hh hr
    generalize bm n (.mk k' m' M' s' w' e' f') y=b at hh hr
    obtain⟨yk,yn,ys,yt,yl,yf⟩:=y
    simp only[tfR,Option.getD_some,Option.isSome_some,TFd.pv_mk,Typ.pv_mk,Val.pv_mk,ag] at hc hh
    cases b with
    | false=>
      simp only[Bool.false_and] at hr
      subst hr
      simp(disch:=try exact dI) only[hx,Option.map_some,Fld.pv_mk,Val.pv_mk,ag,push_cast,seval]
      refine ab.pure hc rfl ?_
      refine zgZ ?_
      refine ab.pure hh rfl ?_
      exact qsZ
    | true=>
      rw[Bool.true_and] at hr
      simp(disch:=try exact dI) only[hx,Option.map_some,Fld.pv_mk,Val.pv_mk,ag,push_cast,seval]
      refine ab.pure hc rfl ?_
      refine zgZ ?_
      refine ab.pure hh rfl ?_
      refine zgZ ?_
      exact⟨i+1,aK qsZ,⟨by omega,hr⟩,by omega⟩
 ·obtain rfl:i=vf.length:=by omega
  rw[List.drop_length,List.all_nil,Bool.true_and] at hr
  subst hr
  simp(disch:=try exact dI) only[Int.lt_irrefl,push_cast,seval]
  refine ab.pure hla rfl ?_
  exact qsZ
theorem KB:∀ n,rt n
 | 0=>fun _ _ h=>h.elim
 | n+1=>fun t v h=>by
   have ih:=KB n
   simp only[qE] at h
   obtain⟨⟨N,hs⟩,_,hw,hv,hl,hf,h⟩:=h
   by_cases hk:v.kind=t.kind
   ·have h:=h hk
    obtain⟨k,m,M,s,w,e,f⟩:=t
    obtain⟨vk,vn,vs,vt,vl,vf⟩:=v
    simp only[Val.kind,Typ.kind,Typ.words,Val.lst,Val.fields,Val.text,Typ.elem] at hk h hw hl hf
    subst hk
    obtain⟨_,h8,h10,h9⟩:=h
    by_cases h1:vk=2\/vk=6\/vk=7\/vk=3
    ·exact yz n _ _ _ _ _ _ _ _ _ _ _ _ h1
    by_cases h4:vk=4
    ·subst h4;exact IY n _ _ _ _ _ _ _ _ _ _ _ hw
    by_cases h5:vk=5
    ·subst h5;exact IX n _ _ _ _ _ _ _ _ _ _ _
    by_cases h8':vk=8
    ·subst h8';exact IW n ih _ _ _ _ _ _ _ _ _ _ _ hl (h8 rfl)
    by_cases h10':vk=10
    ·subst h10';exact DY n ih _ _ _ _ _ _ _ _ _ _ _ N hs (h10 rfl)
    by_cases h9':vk=9
    ·subst h9';exact IV n ih _ _ _ _ _ _ _ _ _ _ _ N hs hv hf (h9 rfl)
    exact tk n _ _ _ _ _ _ _ _ _ _ _ _ h1 h4 h5 h8' h10' h9'
   ·exact DX n t v hk
end Go.Proofs.YtbaaokocnegdoaaGreatDoor
