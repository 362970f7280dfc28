/- A part of the proof. -/
import Derived.Test.YtbojpfpliibfbaaGreatDoorMxRS7
set_option maxHeartbeats 16000000
set_option maxRecDepth 100000
set_option linter.unusedVariables false
set_option linter.unusedSimpArgs false
namespace Go.Proofs.YtbojpfpliibfbaaGreatDoor
open Go Go.Ab
attribute [local irreducible] vc
theorem H1 (w:List (List UInt8))(hw:w.length*16<=140737488351232):ag Tryz.prog aq 322 [.list (w.map PV.str)] (.list (w.map PV.str)):=by
 refine ag.intro Q7.2 (by simp[Q7]) ?_
 cases w with
 | nil=>
   simp(disch:=try exact dI) only[Q7,push_cast,seval]
   intro b
   cases b<;>simp(disch:=try exact dI) only[push_cast,seval]
 | cons x r=>
   rw[List.length_cons] at hw
   simp(disch:=try exact dI) only[Q7,push_cast,seval]
theorem un (n:Int)(nm:List UInt8)(nd k m M s:Int)(w:List (List UInt8))(e:List Typ)(f:List TFd)(d:List Val)(hT:ag Tryz.prog aq 318 [(Typ.mk k m M s w e f).pv] (Typ.mk k m M s w e f).pv)(hd:d.length*88<=140737488351232)(hv:∀ v∈d,v.ok) :
  ag Tryz.prog aq 311 [(TFd.mk n nm nd (Typ.mk k m M s w e f) d).pv] (TFd.mk n nm nd (Typ.mk k m M s w e f) d).pv:=by
 simp only[Typ.pv_mk] at hT
 refine ag.intro SM.2 (by simp[SM]) ?_
 simp(disch:=try exact dI) only[SM,TFd.pv_mk,Typ.pv_mk,ae,push_cast,seval]
 refine ab.pure hT rfl ?_
 refine zgZ ?_
 refine az ([]) (fun i:Nat=>[(17,.pv (.int .i64 (i:Int))),(3,.olist 2 6 ((d.take i).map Val.pv))]) (fun _=>[]) (fun i=>i<=d.length) (fun i=>d.length - i) (0) ?_;intro e0 σ0 n0 h0;simp(disch:=try exact dI) only[push_cast,seval] at h0;obtain⟨rfl,rfl,rfl⟩:=h0;refine⟨?_,?_,?_⟩
 ·exact qsZ
 ·omega
 intro i hi
 by_cases hlt:i<d.length
 ·have hltI:(i:Int)<(d.length:Int):=by omega
  obtain⟨x,hx⟩:∃ x,d[i]? = some x:=⟨_,List.getElem?_eq_getElem hlt⟩
  have hc:=gK _ x (Nat.lt_succ_self _) (hv x (List.mem_of_getElem? hx))
  have hts:=aH hx
  have hlt2:(d.take i).length=i:=by rw[List.length_take];omega
  obtain⟨vk,vn,vs,vt,vl,vf⟩:=x
  simp only[Val.pv_mk] at hc
  simp(disch:=try exact dI) only[hx,Option.map_some,Val.pv_mk,push_cast,seval]
  refine ab.pure hc rfl ?_
  simp(disch:=try exact dI) only[hlt2,push_cast,seval]
  exact⟨i+1,aV (by simp(disch:=try exact dI) only[hts,List.map_append,Val.pv_mk,push_cast,seval]),by omega,by omega⟩
 ·obtain rfl:i=d.length:=by omega
  simp(disch:=try exact dI) only[List.take_length,Int.lt_irrefl,push_cast,seval]
def bC:Nat->Typ->Prop
 | 0,_=>False
 | n+1,.mk k m M s w e f=>w.length*16<=140737488351232/\e.length*104<=140737488351232/\f.length*160<=140737488351232/\(∀ x∈e,bC n x)/\∀ g∈f,g.dflt.length*88<=140737488351232/\(∀ v∈g.dflt,v.ok)/\bC n g.typ
theorem um:∀ (n:Nat) (t:Typ),bC n t->ag Tryz.prog aq 318 [t.pv] t.pv
 | 0,_,h=>h.elim
 | n+1,.mk k m M s w e f,h=>by
   have ih:=um n
   simp only[bC] at h
   obtain⟨hw,hel,hfl,he,hf⟩:=h
   have h297:=H1 w hw
   refine ag.intro SL.2 (by simp[SL]) ?_
   simp(disch:=try exact dI) only[SL,Typ.pv_mk,push_cast,seval]
   refine az ([]) (fun i:Nat=>[(16,.pv (.int .i64 (i:Int))),(3,.olist 2 7 ((e.take i).map Typ.pv))]) (fun _=>[]) (fun i=>i<=e.length) (fun i=>e.length - i) (0) ?_;intro e0 σ0 n0 h0;simp(disch:=try exact dI) only[push_cast,seval] at h0;obtain⟨rfl,rfl,rfl⟩:=h0;refine⟨?_,?_,?_⟩
   ·exact qsZ
   ·omega
   intro i hi
   by_cases hlt:i<e.length
   ·have hltI:(i:Int)<(e.length:Int):=by omega
    obtain⟨x,hx⟩:∃ x,e[i]? = some x:=⟨_,List.getElem?_eq_getElem hlt⟩
    have hc:=ih x (he x (List.mem_of_getElem? hx))
    have hts:=aH hx
    have hlt2:(e.take i).length=i:=by rw[List.length_take];omega
    obtain⟨k',m',M',s',w',e',f'⟩:=x
    simp only[Typ.pv_mk] at hc
    simp(disch:=try exact dI) only[hx,Option.map_some,Typ.pv_mk,ae,push_cast,seval]
    refine ab.pure hc rfl ?_
    simp(disch:=try exact dI) only[hlt2,push_cast,seval]
    exact⟨i+1,aV (by simp(disch:=try exact dI) only[hts,List.map_append,Typ.pv_mk,push_cast,seval]),by omega,by omega⟩
   obtain rfl:i=e.length:=by omega
   clear hi hlt
   simp(disch:=try exact dI) only[List.take_length,Int.lt_irrefl,push_cast,seval]
   refine az ([]) (fun i:Nat=>[(33,.pv (.int .i64 (i:Int))),(6,.olist 3 11 ((f.take i).map TFd.pv))]) (fun _=>[]) (fun i=>i<=f.length) (fun i=>f.length - i) (0) ?_;intro e0 σ0 n0 h0;simp(disch:=try exact dI) only[push_cast,seval] at h0;obtain⟨rfl,rfl,rfl⟩:=h0;refine⟨?_,?_,?_⟩
   ·exact qsZ
   ·omega
   intro i hi
   by_cases hlt:i<f.length
   ·have hltI:(i:Int)<(f.length:Int):=by omega
    obtain⟨x,hx⟩:∃ x,f[i]? = some x:=⟨_,List.getElem?_eq_getElem hlt⟩
    obtain⟨hdl,hdv,hds⟩:=hf x (List.mem_of_getElem? hx)
    have hts:=aH hx
    have hlt2:(f.take i).length=i:=by rw[List.length_take];omega
    obtain⟨n',nm',nd',⟨k',m',M',s',w',e',f'⟩,d'⟩:=x
    have hc:=un n' nm' nd' k' m' M' s' w' e' f' d' (ih _ hds) hdl hdv
    simp only[TFd.pv_mk,Typ.pv_mk,ae] at hc
    simp(disch:=try exact dI) only[hx,Option.map_some,TFd.pv_mk,Typ.pv_mk,ae,push_cast,seval]
    refine ab.pure hc rfl ?_
    simp(disch:=try exact dI) only[hlt2,push_cast,seval]
    exact⟨i+1,aV (by simp(disch:=try exact dI) only[hts,List.map_append,TFd.pv_mk,Typ.pv_mk,ae,push_cast,seval]),by omega,by omega⟩
   obtain rfl:i=f.length:=by omega
   clear hi hlt
   simp(disch:=try exact dI) only[List.take_length,Int.lt_irrefl,push_cast,seval]
   refine ab.pure h297 rfl ?_
   exact qsZ
theorem PM (x:TFd)(name:List UInt8):ag Tryz.prog aq 299 [x.pv,.eptr [.str name] 0 0] (.bool (named name x)):=by
 obtain⟨a,b,c,⟨k,m,n,s,w,e,fs⟩,d⟩:=x
 refine ag.intro SN.2 (by simp[SN]) ?_
 simp(disch:=try exact dI) only[SN,TFd.pv_mk,Typ.pv_mk,named,TFd.name,push_cast,seval]
 exact decide_eq_decide.2 Iff.rfl
theorem oj {n:Nat}{k m M s:Int}{w:List (List UInt8)}{e:List Typ}{f:List TFd}(h:bC (n+1) (.mk k m M s w e f)){x:TFd}(hx:x∈f):ag Tryz.prog aq 311 [x.pv] x.pv:=by
 simp only[bC] at h
 obtain⟨h1,h2,h3⟩:=h.2.2.2.2 x hx
 obtain⟨n',nm',nd',⟨k',m',M',s',w',e',f'⟩,d'⟩:=x
 exact un _ _ _ _ _ _ _ _ _ _ _ (um n _ h3) h1 h2
def ck (t:Typ)(name:List UInt8):Option TFd:=if t.kind=9\/t.kind=10 then t.fields.find? (named name) else none
theorem Mf (n:Nat)(t:Typ)(name:List UInt8)(h:bC n t):ag Tryz.prog aq 298 [t.pv,.clo 299 [] [.eptr [.str name] 0 0]] (tfR (ck t name)):=by
 cases n with
 | zero=>exact h.elim
 | succ n=>
 obtain⟨k,m,M,s,w,e,f⟩:=t
 have hcl:=fun x hx=>oj h (x:=x) hx
 have hfl:f.length<=9000000000000:=by simp only[bC] at h;have:=h.2.2.1;omega
 clear h
 have h147:=r7 f 299 [.eptr [.str name] 0 0] (named name) (fun x _=>PM x name) (by omega)
 refine ag.intro QG.2 (by simp[QG]) ?_
 by_cases hk:k=9\/k=10
 ·rw[show ck (.mk k m M s w e f) name=f.find? (named name) from if_pos hk]
  rcases bA (p:=named name) f 0 with ⟨h1,h2⟩ | ⟨i,x,h1,h2,h3⟩
  ·rw[h1]
   rw[h2] at h147
   rcases hk with rfl | rfl
   all_goals
    simp(disch:=try exact dI) only[QG,Typ.pv_mk,push_cast,seval]
    refine ab.pure h147 rfl ?_
    simp(disch:=try exact dI) only[tfR,Option.getD_none,Option.isSome_none,iM,TFd.pv_mk,Typ.pv_mk,ae,push_cast,seval]
  ·rw[h2]
   rw[h3,Nat.zero_add] at h147
   have hc:=hcl x (List.mem_of_getElem? h1)
   obtain⟨x1,x2,x3,⟨y1,y2,y3,y4,y5,y6,y7⟩,x5⟩:=x
   simp only[TFd.pv_mk,Typ.pv_mk,ae] at hc
   have hi:¬ (i:Int)<0:=by omega
   rcases hk with rfl | rfl
   all_goals
    simp(disch:=try exact dI) only[QG,Typ.pv_mk,push_cast,seval]
    refine ab.pure h147 rfl ?_
    simp(disch:=try exact dI) only[h1,Option.map_some,TFd.pv_mk,Typ.pv_mk,ae,push_cast,seval]
    refine ab.pure hc rfl ?_
    simp(disch:=try exact dI) only[tfR,Option.getD_some,Option.isSome_some,TFd.pv_mk,Typ.pv_mk,ae,push_cast,seval]
 ·rw[show ck (.mk k m M s w e f) name=none from if_neg hk]
  have h9:¬ k=9:=by omega
  have h10:¬ k=10:=by omega
  simp(disch:=try exact dI) only[QG,Typ.pv_mk,tfR,Option.getD_none,Option.isSome_none,iM,TFd.pv_mk,ae,push_cast,seval]
theorem uf (n:Nat)(t:Typ)(name:List UInt8)(h:bC n t):ag Tryz.prog aq 265 [t.pv,.str name] (tfR (ck t name)):=by
 have hf:=Mf n t name h
 generalize ck t name=o at hf ⊢
 obtain⟨k,m,M,s,w,e,f⟩:=t
 simp only[Typ.pv_mk] at hf
 refine ag.intro Q9.2 (by simp[Q9]) ?_
 cases o with
 | none=>
   simp only[tfR,Option.getD_none,Option.isSome_none,iM,TFd.pv_mk,Typ.pv_mk,ae] at hf ⊢
   simp(disch:=try exact dI) only[Q9,Typ.pv_mk,push_cast,seval]
   refine ab.pure hf rfl ?_
   exact qsZ
 | some x=>
   obtain⟨x1,x2,x3,⟨y1,y2,y3,y4,y5,y6,y7⟩,x5⟩:=x
   simp only[tfR,Option.getD_some,Option.isSome_some,TFd.pv_mk,Typ.pv_mk,ae] at hf ⊢
   simp(disch:=try exact dI) only[Q9,Typ.pv_mk,push_cast,seval]
   refine ab.pure hf rfl ?_
   exact qsZ
theorem Hk (l:List Val)(g:Nat)(cs:List PV)(q:Val->Bool)(hq:∀ x∈l,ag Tryz.prog aq g (x.pv::cs) (.bool (q x)))(hl:l.length<=9000000000000) :
  ag Tryz.prog aq 297 [.list (l.map Val.pv),.clo g [] cs] (.int .i64 (dF q l 0)):=by
 refine ag.intro SO.2 (by simp[SO]) ?_
 simp(disch:=try exact dI) only[SO,push_cast,seval]
 refine az ([]) (fun m:Nat=>[(8,.pv (.int .i64 (m:Int)))]) (fun m=>[]) (fun m=>m<=l.length/\dF q l 0=dF q (l.drop m) m) (fun m=>l.length - m) (0) ?_;intro e0 σ0 n0 h0;simp(disch:=try exact dI) only[push_cast,seval] at h0;obtain⟨rfl,rfl,rfl⟩:=h0;refine⟨?_,?_,?_⟩
 ·exact qsZ
 ·exact⟨by omega,by simp⟩
 ·rintro m ⟨hm,he⟩
  by_cases hlt:m<l.length
  ·have hltI:(m:Int)<l.length:=by omega
   obtain⟨x,hx⟩:∃ x,l[m]? = some x:=⟨_,List.getElem?_eq_getElem hlt⟩
   have hcall:=hq x (List.mem_of_getElem? hx)
   have hcl:x.pv.cells.length=6:=by cases x;rw[Val.pv_mk];rfl
   have hag:x.pv.isAgg=true:=by cases x;rw[Val.pv_mk];rfl
   simp(disch:=try exact dI) only[hx,hcl,hag,push_cast,seval]
   refine ab.pure hcall (by exact oF (x.pv::cs)) ?_
   cases hqx:q x with
   | true=>
     rw[he,dA hx hqx]
     exact qsZ
   | false=>
     rw[ci hx hqx] at he
     refine zgZ ?_
     exact⟨m+1,aV qsZ,⟨by omega,he⟩,by omega⟩
  ·have hltI:¬ (m:Int)<l.length:=by omega
   rw[he,dB hlt]
   exact qsZ
theorem sv (l:List Val)(g:Nat)(cs:List PV)(q:Val->Bool)(hq:∀ x∈l,ag Tryz.prog aq g (x.pv::cs) (.bool (q x)))(hl:l.length<=9000000000000) :
  ag Tryz.prog aq 263 [.list (l.map Val.pv),.clo g [] cs] (.bool (l.any q)):=by
 have h94:=Hk l g cs q hq hl
 have hfa:=dr (p:=q) l
 refine ag.intro Ra.2 (by simp[Ra]) ?_
 rcases bA (p:=q) l 0 with ⟨h1,h2⟩ | ⟨k,x,h1,h2,h3⟩
 ·rw[h2] at h94
  rw[h1] at hfa
  rw[<- hfa]
  simp(disch:=try exact dI) only[Ra,push_cast,seval]
  refine ab.pure h94 rfl ?_
  refine zgZ ?_
  exact .refl _
 ·rw[h3] at h94
  rw[h2] at hfa
  rw[<- hfa]
  have hk:(0:Int)<=((0+k:Nat):Int):=by omega
  generalize ((0+k:Nat):Int)=z at *
  simp(disch:=try exact dI) only[Ra,push_cast,seval]
  refine ab.pure h94 rfl ?_
  refine zgZ ?_
  exact .refl _
def wQ (v:Val):TFd->Bool
 | .mk _ nm nd _ _=>(v.fields.find? (aF nm)).isNone&&!decide (nd=2)
theorem PN (v:Val)(g:TFd)(hv:v.ok)(hk:v.kind=9)(h:v.fields.length<=9000000000000):ag Tryz.prog aq 266 [g.pv,.eptr [v.pv] 0 0] (.bool (wQ v g)):=by
 obtain⟨n',nm',nd',⟨k',m',M',s',w',e',f'⟩,d'⟩:=g
 have h52:=nw v nm' hv hk h
 simp only[wQ]
 generalize v.fields.find? (aF nm')=o at h52 ⊢
 obtain⟨vk,vn,vs,vt,vl,vf⟩:=v
 simp only[Val.pv_mk] at h52
 refine ag.intro QK.2 (by simp[QK]) ?_
 cases o with
 | none=>
   simp only[vlR,Option.map_none,Option.getD_none,Option.isSome_none,Option.isNone_none,eM,Val.pv_mk] at h52 ⊢
   by_cases hnd:nd'=2
   ·simp(disch:=try exact dI) only[QK,Val.pv_mk,TFd.pv_mk,Typ.pv_mk,ae,push_cast,seval]
    refine ab.pure h52 rfl ?_
    simp(disch:=try exact dI) only[hnd,push_cast,seval]
   ·simp(disch:=try exact dI) only[QK,Val.pv_mk,TFd.pv_mk,Typ.pv_mk,ae,push_cast,seval]
    refine ab.pure h52 rfl ?_
    simp(disch:=try exact dI) only[hnd,push_cast,seval]
 | some x=>
   obtain⟨xn,⟨xk,xi,xs,xt,xl,xf⟩⟩:=x
   simp only[vlR,Option.map_some,Option.getD_some,Option.isSome_some,Option.isNone_some,Fld.value,Val.pv_mk] at h52 ⊢
   simp(disch:=try exact dI) only[QK,Val.pv_mk,TFd.pv_mk,Typ.pv_mk,ae,push_cast,seval]
   refine ab.pure h52 rfl ?_
   exact qsZ
def Hv (p:Typ->Bool):List Typ->Bool
 | []=>false
 | x::_=>p x
def CH (p:Val->Bool):List Val->Bool
 | []=>false
 | x::_=>p x
def QW (p:Typ->Val->Bool)(l:List Val):Option TFd->Bool
 | none=>false
 | some g=>CH (p g.typ) l
def Nh (p:Typ->Val->Bool)(v:Val):Option TFd->Bool
 | none=>false
 | some g=>p g.typ v
def TJ (t:Typ)(v:Val):Bool:=inB v.num t.min t.max&&decide (v.scale=t.scale)
def TI (t:Typ)(v:Val):Bool:=if 0<t.words.length then t.words.any fun x=>decide (x=v.text) else inB v.text.length t.min t.max
def Jg (p:Typ->Val->Bool)(t:Typ)(v:Val):Bool:=
 if t.kind=2\/t.kind=6\/t.kind=7\/t.kind=3 then TJ t v else if t.kind=4 then TI t v else if t.kind=5 then inB v.text.length t.min t.max
 else if t.kind=8 then inB v.lst.length t.min t.max&&!(v.lst.any fun x=>!(Hv (fun e=>p e x) t.elem)) else if t.kind=10 then QW p v.lst (ck t v.text)
 else if t.kind=9 then (v.fields.all fun x=>Nh p x.value (ck t x.name))&&!(t.fields.any (wQ v)) else true
def eo:Nat->Typ->Val->Bool
 | 0,_,_=>false
 | n+1,t,v=>decide (v.kind=t.kind)&&Jg (eo n) t v
def CL:Nat->Typ->Val->Prop
 | 0,_,_=>False
 | n+1,t,v=>(∃ N,bC N t)/\(1<=t.kind/\t.kind<=10)/\t.words.length<=9000000000000/\v.ok/\v.lst.length<=9000000000000/\v.fields.length<=9000000000000/\(v.kind=t.kind ->
   (t.kind=2\/t.kind=6\/t.kind=7->v.scale=t.scale)/\(t.kind=8->∀ y∈v.lst,∃ x r,t.elem=x::r/\CL n x y)/\(t.kind=10->∀ g,ck t v.text=some g->∃ y r,v.lst=y::r/\CL n g.typ y)/\(t.kind=9->∀ x∈v.fields,∀ g,ck t x.name=some g->CL n g.typ x.value))
def qm (n:Nat):Prop:=∀ t v,CL n t v->ag Tryz.prog aq 234 [t.pv,v.pv] (.bool (eo n t v))
theorem CM (n:Nat)(t:Typ)(v:Val)(h:¬ v.kind=t.kind):ag Tryz.prog aq 234 [t.pv,v.pv] (.bool (eo (n+1) t v)):=by
 rw[show eo (n+1) t v=false by simp[eo,h]]
 obtain⟨k,m,M,s,w,e,f⟩:=t
 obtain⟨vk,vn,vs,vt,vl,vf⟩:=v
 simp only[Val.kind,Typ.kind] at h
 refine ag.intro f5.2 (by simp[f5]) ?_
 simp(disch:=try exact dI) only[f5,Typ.pv_mk,Val.pv_mk,push_cast,seval]
theorem wX (n:Nat)(k m M s:Int)(w:List (List UInt8))(e:List Typ)(f:List TFd)(vn vs:Int)(vt:List UInt8)(vl:List Val)(vf:List Fld)(hk:k=2\/k=6\/k=7\/k=3):ag Tryz.prog aq 234 [(Typ.mk k m M s w e f).pv,(Val.mk k vn vs vt vl vf).pv] (.bool (eo (n+1) (.mk k m M s w e f) (.mk k vn vs vt vl vf))):=by
 have hi:=pq vn m M
 rw[show eo (n+1) (.mk k m M s w e f) (.mk k vn vs vt vl vf)=(inB vn m M&&decide (vs=s)) by simp[eo,Jg,Typ.kind,Val.kind,hk,TJ,Val.num,Typ.min,Typ.max,Val.scale,Typ.scale];rfl]
 generalize inB vn m M=b at hi ⊢
 by_cases hs:vs=s
 ·rcases hk with rfl | rfl | rfl | rfl
  all_goals
   refine ag.intro f5.2 (by simp[f5]) ?_
   simp(disch:=try exact dI) only[f5,Typ.pv_mk,Val.pv_mk,push_cast,seval]
   refine ab.pure hi rfl ?_
   cases b with
   | false=>simp(disch:=try exact dI) only[push_cast,seval]
   | true=>simp(disch:=try exact dI) only[hs,push_cast,seval]
 ·rcases hk with rfl | rfl | rfl | rfl
  all_goals
   refine ag.intro f5.2 (by simp[f5]) ?_
   simp(disch:=try exact dI) only[f5,Typ.pv_mk,Val.pv_mk,push_cast,seval]
   refine ab.pure hi rfl ?_
   cases b with
   | false=>simp(disch:=try exact dI) only[push_cast,seval]
   | true=>simp(disch:=try exact dI) only[hs,push_cast,seval]
theorem HB (n:Nat)(m M s:Int)(w:List (List UInt8))(e:List Typ)(f:List TFd)(vn vs:Int)(vt:List UInt8)(vl:List Val)(vf:List Fld)(hw:w.length<=9000000000000):ag Tryz.prog aq 234 [(Typ.mk 4 m M s w e f).pv,(Val.mk 4 vn vs vt vl vf).pv] (.bool (eo (n+1) (.mk 4 m M s w e f) (.mk 4 vn vs vt vl vf))):=by
 have hi:=pq vt.length m M
 have hc:=iG w vt hw
 rw[show eo (n+1) (.mk 4 m M s w e f) (.mk 4 vn vs vt vl vf)=if 0<w.length then w.any (fun x=>decide (x=vt)) else inB vt.length m M by simp[eo,Jg,Typ.kind,Val.kind,TI,Val.text,Typ.min,Typ.max,Typ.words];rfl]
 refine ag.intro f5.2 (by simp[f5]) ?_
 by_cases h0:0<w.length
 ·have h0I:(0:Int)<(w.length:Int):=by omega
  rw[if_pos h0]
  generalize w.any (fun x=>decide (x=vt))=b at hc ⊢
  simp(disch:=try exact dI) only[f5,Typ.pv_mk,Val.pv_mk,push_cast,seval]
  refine ab.pure hc rfl ?_
  exact qsZ
 ·have h0I:¬ (0:Int)<(w.length:Int):=by omega
  rw[if_neg h0]
  generalize inB vt.length m M=b at hi ⊢
  simp(disch:=try exact dI) only[f5,Typ.pv_mk,Val.pv_mk,push_cast,seval]
  refine ab.pure hi rfl ?_
  exact qsZ
theorem HA (n:Nat)(m M s:Int)(w:List (List UInt8))(e:List Typ)(f:List TFd)(vn vs:Int)(vt:List UInt8)(vl:List Val)(vf:List Fld):ag Tryz.prog aq 234 [(Typ.mk 5 m M s w e f).pv,(Val.mk 5 vn vs vt vl vf).pv] (.bool (eo (n+1) (.mk 5 m M s w e f) (.mk 5 vn vs vt vl vf))):=by
 have hi:=pq vt.length m M
 rw[show eo (n+1) (.mk 5 m M s w e f) (.mk 5 vn vs vt vl vf)=inB vt.length m M by simp[eo,Jg,Typ.kind,Val.kind,Val.text,Typ.min,Typ.max]]
 generalize inB vt.length m M=b at hi ⊢
 refine ag.intro f5.2 (by simp[f5]) ?_
 simp(disch:=try exact dI) only[f5,Typ.pv_mk,Val.pv_mk,push_cast,seval]
 refine ab.pure hi rfl ?_
 exact qsZ
theorem PO (n:Nat)(ih:qm n)(m M s:Int)(w:List (List UInt8))(x:Typ)(r:List Typ)(f:List TFd)(y:Val)(h:CL n x y):ag Tryz.prog aq 264 [y.pv,.eptr [(Typ.mk 8 m M s w (x::r) f).pv] 0 0] (.bool (!eo n x y)):=by
 have hc:=ih x y h
 generalize eo n x y=b at hc ⊢
 obtain⟨k',m',M',s',w',e',f'⟩:=x
 obtain⟨vk,vn,vs,vt,vl,vf⟩:=y
 simp only[Typ.pv_mk,Val.pv_mk] at hc
 refine ag.intro SZ.2 (by simp[SZ]) ?_
 simp(disch:=try exact dI) only[SZ,Typ.pv_mk,Val.pv_mk,aD,push_cast,seval]
 refine ab.pure hc rfl ?_
 exact qsZ
theorem Hz (n:Nat)(ih:qm n)(m M s:Int)(w:List (List UInt8))(e:List Typ)(f:List TFd)(vn vs:Int)(vt:List UInt8)(vl:List Val)(vf:List Fld)(hl:vl.length<=9000000000000)(h:∀ y∈vl,∃ x r,e=x::r/\CL n x y):ag Tryz.prog aq 234 [(Typ.mk 8 m M s w e f).pv,(Val.mk 8 vn vs vt vl vf).pv] (.bool (eo (n+1) (.mk 8 m M s w e f) (.mk 8 vn vs vt vl vf))):=by
 have hi:=pq vl.length m M
 have hc:=sv vl 264 [.eptr [(Typ.mk 8 m M s w e f).pv] 0 0] (fun x=>!(Hv (fun e=>eo n e x) e)) (fun y hy=>by
  obtain⟨x,r,rfl,hx⟩:=h y hy
  exact PO n ih m M s w x r f y hx) hl
 rw[show eo (n+1) (.mk 8 m M s w e f) (.mk 8 vn vs vt vl vf)=(inB vl.length m M&&!(vl.any (fun x=>!(Hv (fun e=>eo n e x) e)))) by simp[eo,Jg,Typ.kind,Val.kind,Val.lst,Typ.min,Typ.max,Typ.elem]]
 generalize inB vl.length m M=b at hi ⊢
 generalize vl.any (fun x=>!(Hv (fun e=>eo n e x) e))=q at hc ⊢
 simp only[Typ.pv_mk] at hc
 refine ag.intro f5.2 (by simp[f5]) ?_
 simp(disch:=try exact dI) only[f5,Typ.pv_mk,Val.pv_mk,push_cast,seval]
 refine ab.pure hi rfl ?_
 cases b with
 | false=>simp(disch:=try exact dI) only[push_cast,seval]
 | true=>
   refine zgZ ?_
   refine ab.pure hc rfl ?_
   exact qsZ
end Go.Proofs.YtbojpfpliibfbaaGreatDoor
