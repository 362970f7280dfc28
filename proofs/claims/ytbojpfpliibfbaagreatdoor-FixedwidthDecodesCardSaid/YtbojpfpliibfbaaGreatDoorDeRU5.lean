/- A part of the proof. -/
import Derived.Test.YtbojpfpliibfbaaGreatDoorDeRU0
set_option maxHeartbeats 16000000
set_option maxRecDepth 100000
set_option linter.unusedVariables false
set_option linter.unusedSimpArgs false
namespace Go.Proofs.YtbojpfpliibfbaaGreatDoor
open Go Go.Ab
attribute [local irreducible] vc
def uS (n:Nat):Prop:=∀ t v,py n t v->ak Tryz.prog ap 189 [t.pv,v.pv] (.bool (bk n t v))
theorem BP (n:Nat)(t:Typ)(v:Val)(h:¬ v.kind=t.kind):ak Tryz.prog ap 189 [t.pv,v.pv] (.bool (bk (n+1) t v)):=by
 rw[show bk (n+1) t v=false by simp[bk,h]]
 obtain⟨k,m,M,s,w,e,f⟩:=t
 obtain⟨vk,vn,vs,vt,vl,vf⟩:=v
 simp only[Val.kind,Typ.kind] at h
 have h':¬ k=vk:=fun e=>h e.symm
 refine ak.intro gn.2 (by simp[gn]) ?_
 simp(disch:=try exact dI) only[gn,Typ.pv_mk,Val.pv_mk,h',push_cast,seval]
theorem wR (n:Nat)(k m M s:Int)(w:List (List UInt8))(e:List Typ)(f:List TFd)(vn:Int)(vt:List UInt8)(vl:List Val)(vf:List Fld)(hk:k=2\/k=6\/k=7):ak Tryz.prog ap 189 [(Typ.mk k m M s w e f).pv,(Val.mk k vn s vt vl vf).pv] (.bool (bk (n+1) (.mk k m M s w e f) (.mk k vn s vt vl vf))):=by
 have hi:=kJ vn m M
 rw[show bk (n+1) (.mk k m M s w e f) (.mk k vn s vt vl vf)=inB vn m M by
  have hk':k=2\/k=6\/k=7\/k=3:=by omega
  simp[bk,pA,Typ.kind,Val.kind,hk',LY,Val.num,Typ.min,Typ.max,Val.scale,Typ.scale]]
 generalize inB vn m M=b at hi ⊢
 rcases hk with rfl | rfl | rfl
 all_goals
  refine ak.intro gn.2 (by simp[gn]) ?_
  simp(disch:=try exact dI) only[gn,Typ.pv_mk,Val.pv_mk,push_cast,seval]
  refine ab.pure hi rfl ?_
  exact qsZ
theorem Gp (n:Nat)(m M s:Int)(w:List (List UInt8))(e:List Typ)(f:List TFd)(vn vs:Int)(vt:List UInt8)(vl:List Val)(vf:List Fld):ak Tryz.prog ap 189 [(Typ.mk 3 m M s w e f).pv,(Val.mk 3 vn vs vt vl vf).pv] (.bool (bk (n+1) (.mk 3 m M s w e f) (.mk 3 vn vs vt vl vf))):=by
 have hi:=kJ vn m M
 rw[show bk (n+1) (.mk 3 m M s w e f) (.mk 3 vn vs vt vl vf)=(inB vn m M&&decide (vs=s)) by simp[bk,pA,Typ.kind,Val.kind,LY,Val.num,Typ.min,Typ.max,Val.scale,Typ.scale];rfl]
 generalize inB vn m M=b at hi ⊢
 refine ak.intro gn.2 (by simp[gn]) ?_
 by_cases hs:vs=s
 ·rw[decide_eq_true hs,Bool.and_true]
  simp(disch:=try exact dI) only[gn,Typ.pv_mk,Val.pv_mk,hs,push_cast,seval]
  refine ab.pure hi rfl ?_
  exact qsZ
 ·rw[decide_eq_false hs,Bool.and_false]
  simp(disch:=try exact dI) only[gn,Typ.pv_mk,Val.pv_mk,hs,push_cast,seval]
theorem jI {α:Type}{p:α->Bool}{l:List α}{i:Nat}{x:α}(h:l[i]? = some x):(l.drop i).any p=(p x||(l.drop (i+1)).any p):=by
 have hi:=(List.getElem?_eq_some_iff.1 h).1
 have he:l[i]=x:=(List.getElem?_eq_some_iff.1 h).2
 rw[List.drop_eq_getElem_cons hi,he,List.any_cons]
theorem Gn (n:Nat)(m M s:Int)(w:List (List UInt8))(e:List Typ)(f:List TFd)(vn vs:Int)(vt:List UInt8)(vl:List Val)(vf:List Fld)(hw:w.length<=9000000000000):ak Tryz.prog ap 189 [(Typ.mk 4 m M s w e f).pv,(Val.mk 4 vn vs vt vl vf).pv] (.bool (bk (n+1) (.mk 4 m M s w e f) (.mk 4 vn vs vt vl vf))):=by
 have hi:=kJ vt.length m M
 rw[show bk (n+1) (.mk 4 m M s w e f) (.mk 4 vn vs vt vl vf)=if 0<w.length then w.any (fun x=>decide (x=vt)) else inB vt.length m M by simp[bk,pA,Typ.kind,Val.kind,MF,Val.text,Typ.min,Typ.max,Typ.words];rfl]
 generalize inB vt.length m M=b at hi ⊢
 obtain⟨R,hR⟩:∃ R,R=if 0<w.length then w.any (fun x=>decide (x=vt)) else b:=⟨_,rfl⟩
 rw[<- hR]
 refine ak.intro gn.2 (by simp[gn]) ?_
 simp(disch:=try exact dI) only[gn,Typ.pv_mk,Val.pv_mk,push_cast,seval]
 refine am ([]) (fun i:Nat=>[(5,.pv (.int .i64 (i:Int)))]) (fun _=>[]) (fun i=>i<=w.length/\R=(if 0<w.length then (w.drop i).any (fun x=>decide (x=vt)) else b)) (fun i=>w.length - i) (0) ?_;intro e0 σ0 n0 h0;simp(disch:=try exact dI) only[push_cast,seval] at h0;obtain⟨rfl,rfl,rfl⟩:=h0;refine⟨?_,?_,?_⟩
 ·exact qsZ
 ·exact⟨by omega,by simpa using hR⟩
 rintro i ⟨hle,hr⟩
 by_cases hlt:i<w.length
 ·have hltI:(i:Int)<(w.length:Int):=by omega
  obtain⟨x,hx⟩:∃ x,w[i]? = some x:=⟨_,List.getElem?_eq_getElem hlt⟩
  rw[jI hx] at hr
  by_cases hv:x=vt
  ·rw[if_pos (by omega),decide_eq_true hv,Bool.true_or] at hr
   subst hr
   simp(disch:=try exact dI) only[hx,Option.map_some,hv,push_cast,seval]
  ·rw[decide_eq_false hv,Bool.false_or] at hr
   simp(disch:=try exact dI) only[hx,Option.map_some,hv,push_cast,seval]
   exact⟨i+1,aI qsZ,⟨by omega,hr⟩,by omega⟩
 ·obtain rfl:i=w.length:=by omega
  rw[List.drop_length,List.any_nil] at hr
  by_cases h0:0<w.length
  ·have h0I:¬ (w.length:Int)=0:=by omega
   rw[if_pos h0] at hr
   subst hr
   simp(disch:=try exact dI) only[Int.lt_irrefl,h0I,push_cast,seval]
  ·have h0I:(w.length:Int)=0:=by omega
   rw[if_neg h0] at hr
   subst hr
   simp(disch:=try exact dI) only[Int.lt_irrefl,h0I,push_cast,seval]
   refine ab.pure hi rfl ?_
   exact qsZ
theorem Gm (n:Nat)(m M s:Int)(w:List (List UInt8))(e:List Typ)(f:List TFd)(vn vs:Int)(vt:List UInt8)(vl:List Val)(vf:List Fld):ak Tryz.prog ap 189 [(Typ.mk 5 m M s w e f).pv,(Val.mk 5 vn vs vt vl vf).pv] (.bool (bk (n+1) (.mk 5 m M s w e f) (.mk 5 vn vs vt vl vf))):=by
 have hi:=kJ vt.length m M
 rw[show bk (n+1) (.mk 5 m M s w e f) (.mk 5 vn vs vt vl vf)=inB vt.length m M by simp[bk,pA,Typ.kind,Val.kind,Val.text,Typ.min,Typ.max]]
 generalize inB vt.length m M=b at hi ⊢
 refine ak.intro gn.2 (by simp[gn]) ?_
 simp(disch:=try exact dI) only[gn,Typ.pv_mk,Val.pv_mk,push_cast,seval]
 refine ab.pure hi rfl ?_
 exact qsZ
theorem Gq (n:Nat)(m M s:Int)(w:List (List UInt8))(e:List Typ)(f:List TFd)(vn vs:Int)(vt:List UInt8)(vl:List Val)(vf:List Fld):ak Tryz.prog ap 189 [(Typ.mk 1 m M s w e f).pv,(Val.mk 1 vn vs vt vl vf).pv] (.bool (bk (n+1) (.mk 1 m M s w e f) (.mk 1 vn vs vt vl vf))):=by
 rw[show bk (n+1) (.mk 1 m M s w e f) (.mk 1 vn vs vt vl vf)=true by simp[bk,pA,Typ.kind,Val.kind]]
 refine ak.intro gn.2 (by simp[gn]) ?_
 simp(disch:=try exact dI) only[gn,Typ.pv_mk,Val.pv_mk,push_cast,seval]
theorem Gl (n:Nat)(ih:uS n)(m M s:Int)(w:List (List UInt8))(e:List Typ)(f:List TFd)(vn vs:Int)(vt:List UInt8)(vl:List Val)(vf:List Fld)(hl:vl.length<=9000000000000)(h:∀ y∈vl,∃ x r,e=x::r/\py n x y):ak Tryz.prog ap 189 [(Typ.mk 8 m M s w e f).pv,(Val.mk 8 vn vs vt vl vf).pv] (.bool (bk (n+1) (.mk 8 m M s w e f) (.mk 8 vn vs vt vl vf))):=by
 have hi:=kJ vl.length m M
 rw[show bk (n+1) (.mk 8 m M s w e f) (.mk 8 vn vs vt vl vf)=(inB vl.length m M&&!(vl.any (fun x=>!(wQ (fun e=>bk n e x) e)))) by simp[bk,pA,Typ.kind,Val.kind,Val.lst,Typ.min,Typ.max,Typ.elem]]
 generalize inB vl.length m M=b at hi ⊢
 obtain⟨p,hp⟩:∃ p:Val->Bool,p=fun x=>!(wQ (fun e=>bk n e x) e):=⟨_,rfl⟩
 rw[<- hp]
 obtain⟨R,hR⟩:∃ R,R=(b&&!(vl.any p)):=⟨_,rfl⟩
 rw[<- hR]
 refine ak.intro gn.2 (by simp[gn]) ?_
 simp(disch:=try exact dI) only[gn,Typ.pv_mk,Val.pv_mk,push_cast,seval]
 refine am ([]) (fun i:Nat=>[(6,.pv (.int .i64 (i:Int)))]) (fun _=>[]) (fun i=>i<=vl.length/\R=(b&&!((vl.drop i).any p))) (fun i=>vl.length - i) (0) ?_;intro e0 σ0 n0 h0;simp(disch:=try exact dI) only[push_cast,seval] at h0;obtain⟨rfl,rfl,rfl⟩:=h0;refine⟨?_,?_,?_⟩
 ·exact qsZ
 ·exact⟨by omega,by simpa using hR⟩
 rintro i ⟨hle,hr⟩
 by_cases hlt:i<vl.length
 ·have hltI:(i:Int)<(vl.length:Int):=by omega
  obtain⟨y,hy⟩:∃ x,vl[i]? = some x:=⟨_,List.getElem?_eq_getElem hlt⟩
  obtain⟨x,r,rfl,hxy⟩:=h y (List.mem_of_getElem? hy)
  have hc:=ih x y hxy
  rw[jI hy,show p y=!(bk n x y) by rw[hp];rfl] at hr
  generalize bk n x y=q at hc hr
  have hel:¬ ((x::r).length:Int)=0:=by rw[List.length_cons];omega
  obtain⟨k',m',M',s',w',e',f'⟩:=x
  obtain⟨yk,yn,ys,yt,yl,yf⟩:=y
  simp only[Typ.pv_mk,Val.pv_mk] at hc
  cases q with
  | false=>
    simp only[Bool.not_false,Bool.true_or,Bool.not_true,Bool.and_false] at hr
    subst hr
    simp(disch:=try exact dI) only[hy,Option.map_some,Typ.pv_mk,Val.pv_mk,au,push_cast,seval]
    refine ab.pure hc rfl ?_
    exact qsZ
  | true=>
    simp only[Bool.not_true,Bool.false_or] at hr
    simp(disch:=try exact dI) only[hy,Option.map_some,Typ.pv_mk,Val.pv_mk,au,push_cast,seval]
    refine ab.pure hc rfl ?_
    refine zgZ ?_
    exact⟨i+1,aI qsZ,⟨by omega,hr⟩,by omega⟩
 ·obtain rfl:i=vl.length:=by omega
  rw[List.drop_length,List.any_nil,Bool.not_false,Bool.and_true] at hr
  subst hr
  simp(disch:=try exact dI) only[Int.lt_irrefl,push_cast,seval]
  refine ab.pure hi rfl ?_
  exact qsZ
theorem zd {N:Nat}{k m M s:Int}{w:List (List UInt8)}{e:List Typ}{f:List TFd}(hs:bw N (.mk k m M s w e f)):f.length<=9000000000000:=by
 cases N with
 | zero=>exact hs.elim
 | succ N=>simp only[bw] at hs;have:=hs.2.2.1;omega
theorem BQ (n:Nat)(ih:uS n)(m M s:Int)(w:List (List UInt8))(e:List Typ)(f:List TFd)(vn vs:Int)(vt:List UInt8)(vl:List Val)(vf:List Fld)(hfl:f.length<=9000000000000)
  (h:∀ g,br (.mk 10 m M s w e f) vt=some g->∃ y r,vl=y::r/\py n g.typ y):ak Tryz.prog ap 189 [(Typ.mk 10 m M s w e f).pv,(Val.mk 10 vn vs vt vl vf).pv] (.bool (bk (n+1) (.mk 10 m M s w e f) (.mk 10 vn vs vt vl vf))):=by
 have hc:=ug m M s w e f 10 vt hfl
 rw[show bk (n+1) (.mk 10 m M s w e f) (.mk 10 vn vs vt vl vf)=IL (bk n) vl (br (.mk 10 m M s w e f) vt) by simp[bk,pA,Typ.kind,Val.kind,Val.lst,Val.text]]
 rw[show br (.mk 10 m M s w e f) vt=f.find? (named vt) from if_pos (.inr rfl)] at h ⊢
 simp only[Typ.pv_mk] at hc
 rcases bp (p:=named vt) f 0 with ⟨h1,h2⟩ | ⟨i,g,h1,h2,h3⟩
 ·rw[h1]
  rw[h2] at hc
  simp only[IL]
  refine ak.intro gn.2 (by simp[gn]) ?_
  simp(disch:=try exact dI) only[gn,Typ.pv_mk,Val.pv_mk,push_cast,seval]
  refine ab.pure hc rfl ?_
  exact qsZ
 ·rw[h2] at h ⊢
  rw[h3,Nat.zero_add] at hc
  obtain⟨y,r,rfl,hy⟩:=h g rfl
  have hh:=ih _ _ hy
  obtain⟨n',nm',nd',⟨k',m',M',s',w',e',f'⟩,d'⟩:=g
  simp only[TFd.typ,IL,rS] at hh ⊢
  generalize bk n (.mk k' m' M' s' w' e' f') y=b at hh ⊢
  obtain⟨yk,yn,ys,yt,yl,yf⟩:=y
  simp only[Typ.pv_mk,Val.pv_mk] at hh
  have hi0:(0:Int)<=(i:Int):=by omega
  refine ak.intro gn.2 (by simp[gn]) ?_
  simp(disch:=try exact dI) only[gn,Typ.pv_mk,Val.pv_mk,push_cast,seval]
  refine ab.pure hc rfl ?_
  simp(disch:=try exact dI) only[h1,Option.map_some,TFd.pv_mk,Typ.pv_mk,ag,au,Val.pv_mk,push_cast,seval]
  refine ab.pure hh rfl ?_
  exact qsZ
theorem Ce (vn vs:Int)(vt:List UInt8)(vl:List Val)(vf:List Fld)(name:List UInt8)(hl:vf.length<=9000000000000):ak Tryz.prog ap 25 [(Val.mk 9 vn vs vt vl vf).pv,.str name] (.int .i64 (dt (aP name) vf 0)):=by
 refine ak.intro Q25.2 (by simp[Q25]) ?_
 simp(disch:=try exact dI) only[Q25,Val.pv_mk,push_cast,seval]
 refine am ([]) (fun i:Nat=>[(5,.pv (.int .i64 (i:Int)))]) (fun _=>[]) (fun i=>i<=vf.length/\dt (aP name) vf 0=dt (aP name) (vf.drop i) i) (fun i=>vf.length - i) (0) ?_;intro e0 σ0 n0 h0;simp(disch:=try exact dI) only[push_cast,seval] at h0;obtain⟨rfl,rfl,rfl⟩:=h0;refine⟨?_,?_,?_⟩
 ·exact qsZ
 ·exact⟨by omega,by simp⟩
 rintro i ⟨hi,he⟩
 by_cases hlt:i<vf.length
 ·have hltI:(i:Int)<(vf.length:Int):=by omega
  obtain⟨x,hx⟩:∃ x,vf[i]? = some x:=⟨_,List.getElem?_eq_getElem hlt⟩
  have hhit:=fun h=>di (p:=aP name) hx h
  have hmiss:=fun h=>b9 (p:=aP name) hx h
  obtain⟨x2,⟨y1,y2,y3,y4,y5,y6⟩⟩:=x
  simp only[aP,Fld.name] at hhit hmiss
  by_cases hn:x2=name
  ·rw[he,hhit (decide_eq_true hn)]
   simp(disch:=try exact dI) only[hx,Option.map_some,hn,Fld.pv_mk,Val.pv_mk,ag,push_cast,seval]
  ·simp(disch:=try exact dI) only[hx,Option.map_some,hn,Fld.pv_mk,Val.pv_mk,ag,push_cast,seval]
   exact⟨i+1,aI qsZ,⟨by omega,by rw[he];exact hmiss (decide_eq_false hn)⟩,by omega⟩
 ·obtain rfl:i=vf.length:=by omega
  rw[he,dj (by omega)]
  simp(disch:=try exact dI) only[Int.lt_irrefl,push_cast,seval]
theorem zJ (n:Nat)(ih:uS n)(m M s:Int)(w:List (List UInt8))(e:List Typ)(f:List TFd)(vn vs:Int)(vt:List UInt8)(vl:List Val)(vf:List Fld)(hfl:f.length<=9000000000000)(hvf:vf.length<=9000000000000)
  (h:∀ x∈vf,∀ g,br (.mk 9 m M s w e f) x.name=some g->py n g.typ x.value):ak Tryz.prog ap 239 [(Typ.mk 9 m M s w e f).pv,(Val.mk 9 vn vs vt vl vf).pv] (.bool ((vf.all fun x=>vL (bk n) x.value (br (.mk 9 m M s w e f) x.name))&&!(f.any (ji (.mk 9 vn vs vt vl vf))))):=by
 have hfld:=fun nm=>ug m M s w e f 9 nm hfl
 have hfnd:=fun nm=>Ce vn vs vt vl vf nm (by omega)
 have hT:∀ nm,br (.mk 9 m M s w e f) nm=f.find? (named nm):=fun nm=>if_pos (.inl rfl)
 simp only[hT] at h ⊢
 clear hT
 obtain⟨p,hp⟩:∃ p:Fld->Bool,p=fun x=>vL (bk n) x.value (f.find? (named x.name)):=⟨_,rfl⟩
 rw[<- hp]
 obtain⟨L,hL⟩:∃ L:TFd->Bool,L=ji (.mk 9 vn vs vt vl vf):=⟨_,rfl⟩
 rw[<- hL]
 obtain⟨R,hR⟩:∃ R,R=(vf.all p&&!(f.any L)):=⟨_,rfl⟩
 rw[<- hR]
 simp only[Typ.pv_mk,Val.pv_mk] at hfld hfnd
 refine ak.intro RL.2 (by simp[RL]) ?_
 simp(disch:=try exact dI) only[RL,Typ.pv_mk,Val.pv_mk,push_cast,seval]
 refine am ([]) (fun i:Nat=>[(5,.pv (.int .i64 (i:Int)))]) (fun _=>[]) (fun i=>i<=vf.length/\R=((vf.drop i).all p&&!(f.any L))) (fun i=>vf.length - i) (0) ?_;intro e0 σ0 n0 h0;simp(disch:=try exact dI) only[push_cast,seval] at h0;obtain⟨rfl,rfl,rfl⟩:=h0;refine⟨?_,?_,?_⟩
 ·exact qsZ
 ·exact⟨by omega,by simpa using hR⟩
 rintro i ⟨hi,hr⟩
 by_cases hlt:i<vf.length
 ·have hltI:(i:Int)<(vf.length:Int):=by omega
  obtain⟨x,hx⟩:∃ x,vf[i]? = some x:=⟨_,List.getElem?_eq_getElem hlt⟩
  rw[uO hx] at hr
  have hph:=h x (List.mem_of_getElem? hx)
  have hc:=hfld x.name
  rw[show p x=vL (bk n) x.value (f.find? (named x.name)) by rw[hp]] at hr
  obtain⟨xn,y⟩:=x
  simp only[Fld.name,Fld.value] at hph hc hr
  rcases bp (p:=named xn) f 0 with ⟨h1,h2⟩ | ⟨j,g,h1,h2,h3⟩
  ·rw[h2] at hc
   rw[h1] at hr
   simp only[vL,Bool.false_and] at hr
   subst hr
   obtain⟨yk,yn,ys,yt,yl,yf⟩:=y
   simp(disch:=try exact dI) only[hx,Option.map_some,Fld.pv_mk,Val.pv_mk,ag,push_cast,seval]
   refine ab.pure hc rfl ?_
   exact qsZ
  ·rw[h3,Nat.zero_add] at hc
   rw[h2] at hr
   have hh:=ih _ _ (hph g h2)
   have hj0:(0:Int)<=(j:Int):=by omega
   have hj1:¬ (j:Int)<0:=by omega
   simp only[vL] at hr
   obtain⟨n',nm',nd',⟨k',m',M',s',w',e',f'⟩,d'⟩:=g
   simp only[TFd.typ] at hh hr
   generalize bk n (.mk k' m' M' s' w' e' f') y=b at hh hr
   obtain⟨yk,yn,ys,yt,yl,yf⟩:=y
   simp only[Typ.pv_mk,Val.pv_mk] at hh
   cases b with
   | false=>
     simp only[Bool.false_and] at hr
     subst hr
     simp(disch:=try exact dI) only[hx,Option.map_some,Fld.pv_mk,Val.pv_mk,ag,push_cast,seval]
     refine ab.pure hc rfl ?_
     simp(disch:=try exact dI) only[hx,h1,Option.map_some,Fld.pv_mk,Val.pv_mk,TFd.pv_mk,Typ.pv_mk,ag,push_cast,seval]
     refine ab.pure hh rfl ?_
     exact qsZ
   | true=>
     rw[Bool.true_and] at hr
     simp(disch:=try exact dI) only[hx,Option.map_some,Fld.pv_mk,Val.pv_mk,ag,push_cast,seval]
     refine ab.pure hc rfl ?_
     simp(disch:=try exact dI) only[hx,h1,Option.map_some,Fld.pv_mk,Val.pv_mk,TFd.pv_mk,Typ.pv_mk,ag,push_cast,seval]
     refine ab.pure hh rfl ?_
     refine zgZ ?_
     exact⟨i+1,aI qsZ,⟨by omega,hr⟩,by omega⟩
 obtain rfl:i=vf.length:=by omega
 rw[List.drop_length,List.all_nil,Bool.true_and] at hr
 clear hR hi hlt h hp
 simp(disch:=try exact dI) only[Int.lt_irrefl,push_cast,seval]
 refine am ([]) (fun i:Nat=>[(7,.pv (.int .i64 (i:Int)))]) (fun _=>[]) (fun i=>i<=f.length/\R=!((f.drop i).any L)) (fun i=>f.length - i) (0) ?_;intro e0 σ0 n0 h0;simp(disch:=try exact dI) only[push_cast,seval] at h0;obtain⟨rfl,rfl,rfl⟩:=h0;refine⟨?_,?_,?_⟩
 ·exact qsZ
 ·exact⟨by omega,by simpa using hr⟩
 clear hr
 rintro i ⟨hi,hr⟩
 by_cases hlt:i<f.length
 ·have hltI:(i:Int)<(f.length:Int):=by omega
  obtain⟨g,hg⟩:∃ g,f[i]? = some g:=⟨_,List.getElem?_eq_getElem hlt⟩
  rw[jI hg,show L g=ji (.mk 9 vn vs vt vl vf) g by rw[hL]] at hr
  obtain⟨n',nm',nd',⟨k',m',M',s',w',e',f'⟩,d'⟩:=g
  have hc:=hfnd nm'
  simp only[ji,Val.fields] at hr
  by_cases h2:nd'=2
  ·rw[decide_eq_true h2,Bool.not_true,Bool.and_false,Bool.false_or] at hr
   simp(disch:=try exact dI) only[hg,Option.map_some,TFd.pv_mk,Typ.pv_mk,ag,h2,push_cast,seval]
   exact⟨i+1,aI qsZ,⟨by omega,hr⟩,by omega⟩
  ·rw[decide_eq_false h2,Bool.not_false,Bool.and_true] at hr
   rcases bp (p:=aP nm') vf 0 with ⟨h1,h3⟩ | ⟨j,x,h1,h3,h4⟩
   ·rw[h1,Option.isNone_none,Bool.true_or,Bool.not_true] at hr
    rw[h3] at hc
    subst hr
    simp(disch:=try exact dI) only[hg,Option.map_some,TFd.pv_mk,Typ.pv_mk,ag,h2,push_cast,seval]
    refine ab.pure hc rfl ?_
    exact qsZ
   ·rw[h3,Option.isNone_some,Bool.false_or] at hr
    rw[h4,Nat.zero_add] at hc
    have hj1:¬ (j:Int)<0:=by omega
    simp(disch:=try exact dI) only[hg,Option.map_some,TFd.pv_mk,Typ.pv_mk,ag,h2,push_cast,seval]
    refine ab.pure hc rfl ?_
    refine zgZ ?_
    exact⟨i+1,aI qsZ,⟨by omega,hr⟩,by omega⟩
 ·obtain rfl:i=f.length:=by omega
  rw[List.drop_length,List.any_nil,Bool.not_false] at hr
  subst hr
  simp(disch:=try exact dI) only[Int.lt_irrefl,push_cast,seval]
theorem H9:∀ n,uS n
 | 0=>fun _ _ h=>h.elim
 | n+1=>fun t v h=>by
   have ih:=H9 n
   simp only[py] at h
   obtain⟨⟨N,hs⟩,hkk,hw,hv,hl,hf,h⟩:=h
   by_cases hk:v.kind=t.kind
   ·have h:=h hk
    obtain⟨k,m,M,s,w,e,f⟩:=t
    obtain⟨vk,vn,vs,vt,vl,vf⟩:=v
    have hfl:=zd hs
    simp only[Val.kind,Typ.kind,Typ.words,Val.lst,Val.fields,Val.text,Typ.elem,Val.scale,Typ.scale] at hk h hw hl hf hkk
    subst hk
    obtain⟨h2,h8,h10,h9⟩:=h
    by_cases h1:vk=2\/vk=6\/vk=7
    ·obtain rfl:=h2 h1
     exact wR n _ _ _ _ _ _ _ _ _ _ _ h1
    have hc:vk=1\/vk=3\/vk=4\/vk=5\/vk=8\/vk=9\/vk=10:=by omega
    clear hkk h1 h2
    rcases hc with rfl | rfl | rfl | rfl | rfl | rfl | rfl
    ·exact Gq n _ _ _ _ _ _ _ _ _ _ _
    ·exact Gp n _ _ _ _ _ _ _ _ _ _ _
    ·exact Gn n _ _ _ _ _ _ _ _ _ _ _ hw
    ·exact Gm n _ _ _ _ _ _ _ _ _ _ _
    ·exact Gl n ih _ _ _ _ _ _ _ _ _ _ _ hl (h8 rfl)
    ·have hrec:=zJ n ih m M s w e f vn vs vt vl vf hfl hf (h9 rfl)
     rw[show bk (n+1) (.mk 9 m M s w e f) (.mk 9 vn vs vt vl vf)=((vf.all fun x=>vL (bk n) x.value (br (.mk 9 m M s w e f) x.name))&&!(f.any (ji (.mk 9 vn vs vt vl vf)))) by simp[bk,pA,Typ.kind,Val.kind,Val.fields,Typ.fields]]
     generalize ((vf.all fun x=>vL (bk n) x.value (br (.mk 9 m M s w e f) x.name))&&!(f.any (ji (.mk 9 vn vs vt vl vf))))=b at hrec ⊢
     simp only[Typ.pv_mk,Val.pv_mk] at hrec
     refine ak.intro gn.2 (by simp[gn]) ?_
     simp(disch:=try exact dI) only[gn,Typ.pv_mk,Val.pv_mk,push_cast,seval]
     refine ab.pure hrec rfl ?_
     exact qsZ
    ·exact BQ n ih _ _ _ _ _ _ _ _ _ _ _ hfl (h10 rfl)
   ·exact BP n t v hk
def fG (k nd:Int)(d:List Val):Int:=if inB nd 1 3=false then 11 else if k=10/\¬ nd=1 then 11 else if nd=3/\d.length=0 then 4 else if 1<d.length then 3 else if ¬ nd=3/\0<d.length then 3 else 0
theorem fe (k:Int)(b:List TFd)(n:Int)(nm:List UInt8)(nd:Int)(t:Typ)(d:List Val):cC k b (.mk n nm nd t d)=if bz nm=false then 12 else if inB n 1 9999=false then 2 else if b.any (i7 n nm)=true then 7 else fG k nd d:=rfl
theorem vh {k nd:Int}{d:List Val}(hb:inB nd 1 3=true)(hk:¬ (k=10/\¬ nd=1)) :
  fG k nd d=4/\nd=3/\d.length=0\/fG k nd d=3/\1<d.length\/fG k nd d=3/\¬ nd=3/\d.length=1\/fG k nd d=0/\nd=3/\d.length=1\/fG k nd d=0/\¬ nd=3/\d.length=0:=by
 unfold fG
 rw[hb,if_neg (show ¬ true=false by decide),if_neg hk]
 split
 ·omega
 ·split
  ·omega
  ·split<;>omega
theorem Ch (k m M s:Int)(w:List (List UInt8))(e:List Typ)(f:List TFd):ak Tryz.prog ap 187 [(Typ.mk k m M s w e f).pv] (.int .i64 (if 64<f.length then 9 else be k [] f)):=by
 by_cases h64:64<f.length
 ·have h64I:(64:Int)<(f.length:Int):=by omega
  rw[if_pos h64]
  refine ak.intro Mj.2 (by simp[Mj]) ?_
  simp(disch:=try exact dI) only[Mj,Typ.pv_mk,h64I,push_cast,seval]
 have h64I:¬ (64:Int)<(f.length:Int):=by omega
 rw[if_neg h64]
 obtain⟨R,hR⟩:∃ R,R=be k [] f:=⟨_,rfl⟩
 rw[<- hR]
 refine ak.intro Mj.2 (by simp[Mj]) ?_
 simp(disch:=try exact dI) only[Mj,Typ.pv_mk,h64I,push_cast,seval]
 refine am ([]) (fun i:Nat=>[(3,.pv (.int .i64 (i:Int)))]) (fun _=>[]) (fun i=>i<=f.length/\R=be k (f.take i) (f.drop i)) (fun i=>f.length - i) (0) ?_;intro e0 σ0 n0 h0;simp(disch:=try exact dI) only[push_cast,seval] at h0;obtain⟨rfl,rfl,rfl⟩:=h0;refine⟨?_,?_,?_⟩
 ·exact qsZ
 ·exact⟨by omega,by simpa using hR⟩
 rintro i ⟨hi,hr⟩
 by_cases hlt:i<f.length
 ·have hltI:(i:Int)<(f.length:Int):=by omega
  obtain⟨g,hg⟩:∃ g,f[i]? = some g:=⟨_,List.getElem?_eq_getElem hlt⟩
  rw[i6 hg] at hr
  obtain⟨n,nm,nd,⟨k',m',M',s',w',e',f'⟩,d⟩:=g
  rw[fe] at hr
  have hn:=rB nm
  have hi1:=kJ n 1 9999
  have hi2:=kJ nd 1 3
  obtain⟨R',hR'⟩:∃ R',R'=be k (f.take (i+1)) (f.drop (i+1)):=⟨_,rfl⟩
  rw[<- hR'] at hr
  simp(disch:=try exact dI) only[hg,Option.map_some,TFd.pv_mk,Typ.pv_mk,ag,push_cast,seval]
  refine ab.pure hn rfl ?_
  cases hb1:bz nm with
  | false=>
    rw[hb1,if_pos rfl,if_neg (by decide)] at hr
    subst hr
    exact qsZ
  | true=>
  rw[hb1,if_neg (show ¬ true=false by decide)] at hr
  refine zgZ ?_
  refine ab.pure hi1 rfl ?_
  cases hb2:inB n 1 9999 with
  | false=>
    rw[hb2,if_pos rfl,if_neg (by decide)] at hr
    subst hr
    exact qsZ
  | true=>
  rw[hb2,if_neg (show ¬ true=false by decide)] at hr
  refine zgZ ?_
  refine am ([]) (fun j:Nat=>[(5,.pv (.int .i64 (j:Int)))]) (fun _=>[]) (fun j=>j<=i/\(f.take i).any (i7 n nm)=((f.take i).drop j).any (i7 n nm)) (fun j=>i - j) (0) ?_;intro e0 σ0 n0 h0;simp(disch:=try exact dI) only[push_cast,seval] at h0;obtain⟨rfl,rfl,rfl⟩:=h0;refine⟨?_,?_,?_⟩
  ·exact qsZ
  ·exact⟨by omega,by simp⟩
  rintro j ⟨hj,hd⟩
  by_cases hjlt:j<i
  ·have hjI:(j:Int)<(i:Int):=by omega
   obtain⟨x,hx⟩:∃ x,f[j]? = some x:=⟨_,List.getElem?_eq_getElem (by omega)⟩
   have hx':(f.take i)[j]? = some x:=by rw[List.getElem?_take_of_lt hjlt];exact hx
   rw[jI hx'] at hd
   obtain⟨xn,xnm,xnd,⟨a1,a2,a3,a4,a5,a6,a7⟩,xd⟩:=x
   by_cases q1:xnm=nm
   ·rw[show i7 n nm (TFd.mk xn xnm xnd (Typ.mk a1 a2 a3 a4 a5 a6 a7) xd)=true by simp[i7,TFd.name,q1],Bool.true_or] at hd
    rw[hd,if_pos rfl,if_neg (by decide)] at hr
    subst hr
    simp(disch:=try exact dI) only[hx,Option.map_some,TFd.pv_mk,Typ.pv_mk,ag,q1,push_cast,seval]
   ·by_cases q2:xn=n
    ·rw[show i7 n nm (TFd.mk xn xnm xnd (Typ.mk a1 a2 a3 a4 a5 a6 a7) xd)=true by simp[i7,TFd.number,q2],Bool.true_or] at hd
     rw[hd,if_pos rfl,if_neg (by decide)] at hr
     subst hr
     simp(disch:=try exact dI) only[hx,Option.map_some,TFd.pv_mk,Typ.pv_mk,ag,q1,q2,push_cast,seval]
    ·rw[show i7 n nm (TFd.mk xn xnm xnd (Typ.mk a1 a2 a3 a4 a5 a6 a7) xd)=false by simp[i7,TFd.name,TFd.number,q1,q2],Bool.false_or] at hd
     simp(disch:=try exact dI) only[hx,Option.map_some,TFd.pv_mk,Typ.pv_mk,ag,q1,q2,push_cast,seval]
     exact⟨j+1,aI qsZ,⟨by omega,hd⟩,by omega⟩
  obtain rfl:j=i:=by omega
  rw[List.drop_of_length_le (by rw[List.length_take];omega),List.any_nil] at hd
  rw[hd,if_neg (show ¬ false=true by decide)] at hr
  clear hd hj hjlt
  simp(disch:=try exact dI) only[Int.lt_irrefl,push_cast,seval]
  refine ab.pure hi2 rfl ?_
  cases hb3:inB nd 1 3 with
  | false=>
    rw[show fG k nd d=11 by simp[fG,hb3],if_neg (by decide)] at hr
    subst hr
    exact qsZ
  | true=>
  by_cases hk:k=10/\¬ nd=1
  ·rw[show fG k nd d=11 by simp[fG,hb3,hk],if_neg (by decide)] at hr
   subst hr
   obtain⟨hk1,hnd⟩:=hk
   simp(disch:=try exact dI) only[hk1,hnd,push_cast,seval]
  have hc5:=vh (d:=d) hb3 hk
  have hk':k=10/\nd=1\/¬ k=10:=by
   by_cases h:k=10
   ·exact .inl ⟨h,Decidable.byContradiction fun hh=>hk ⟨h,hh⟩⟩
   ·exact .inr h
  clear hk
  generalize fG k nd d=x at hc5 hr
  rcases hc5 with ⟨rfl,rfl,h0⟩ | ⟨rfl,h1⟩ | ⟨rfl,hnd,h0⟩ | ⟨rfl,rfl,h0⟩ | ⟨rfl,hnd,h0⟩
  ·rw[if_neg (by decide)] at hr
   subst hr
   rcases hk' with ⟨_,hh⟩ | hk
   ·exact absurd hh (by decide)
   ·have h0I:(d.length:Int)=0:=by omega
    simp(disch:=try exact dI) only[hk,h0I,push_cast,seval]
  ·rw[if_neg (by decide)] at hr
   subst hr
   have h0I:¬ (d.length:Int)=0:=by omega
   have h1I:(1:Int)<d.length:=by omega
   rcases hk' with ⟨hk,rfl⟩ | hk
   ·simp(disch:=try exact dI) only[hk,h0I,h1I,push_cast,seval]
   ·by_cases hnd:nd=3
    ·simp(disch:=try exact dI) only[hk,hnd,h0I,h1I,push_cast,seval]
    ·simp(disch:=try exact dI) only[hk,hnd,h0I,h1I,push_cast,seval]
  ·rw[if_neg (by decide)] at hr
   subst hr
   have h0I:(d.length:Int)=1:=by omega
   rcases hk' with ⟨hk,rfl⟩ | hk
   ·simp(disch:=try exact dI) only[hk,h0I,push_cast,seval]
   ·simp(disch:=try exact dI) only[hk,hnd,h0I,push_cast,seval]
  ·rw[if_pos rfl] at hr
   have h0I:(d.length:Int)=1:=by omega
   rcases hk' with ⟨_,hh⟩ | hk
   ·exact absurd hh (by decide)
   ·simp(disch:=try exact dI) only[hk,h0I,push_cast,seval]
    exact⟨j+1,aI qsZ,⟨by omega,hr.trans hR'⟩,by omega⟩
  ·rw[if_pos rfl] at hr
   have h0I:(d.length:Int)=0:=by omega
   rcases hk' with ⟨hk,rfl⟩ | hk
   ·simp(disch:=try exact dI) only[hk,h0I,push_cast,seval]
    exact⟨j+1,aI qsZ,⟨by omega,hr.trans (hk▸hR')⟩,by omega⟩
   ·simp(disch:=try exact dI) only[hk,hnd,h0I,push_cast,seval]
    exact⟨j+1,aI qsZ,⟨by omega,hr.trans hR'⟩,by omega⟩
 ·obtain rfl:i=f.length:=by omega
  rw[List.drop_length,be] at hr
  subst hr
  simp(disch:=try exact dI) only[Int.lt_irrefl,push_cast,seval]
end Go.Proofs.YtbojpfpliibfbaaGreatDoor
