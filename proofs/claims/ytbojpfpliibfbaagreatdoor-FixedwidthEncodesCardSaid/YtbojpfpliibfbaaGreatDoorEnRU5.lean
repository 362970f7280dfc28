/- A part of the proof. -/
import Derived.Test.YtbojpfpliibfbaaGreatDoorEnRU4
set_option maxHeartbeats 16000000
set_option maxRecDepth 100000
set_option linter.unusedVariables false
set_option linter.unusedSimpArgs false
-- many steps
namespace Go.Proofs.YtbojpfpliibfbaaGreatDoor
open Go Go.Ab
attribute [local irreducible] vc
def s7 (n:Nat):Prop:=∀ t v,ou n t v->am Tryz.prog az 189 [t.pv,v.pv] (.bool (bw n t v))
theorem Ai (n:Nat)(t:Typ)(v:Val)(h:¬ v.kind=t.kind):am Tryz.prog az 189 [t.pv,v.pv] (.bool (bw (n+1) t v)):=by
 rw[show bw (n+1) t v=false by simp[bw,h]]
 obtain⟨k,m,M,s,w,e,f⟩:=t
 obtain⟨vk,vn,vs,vt,vl,vf⟩:=v
 simp only[Val.kind,Typ.kind] at h
 have h':¬ k=vk:=fun e=>h e.symm
 refine am.intro gp.2 (by simp[gp]) ?_
 simp(disch:=try exact dI) only[gp,Typ.pv_mk,Val.pv_mk,h',push_cast,seval]
theorem uT (n:Nat)(k m M s:Int)(w:List (List UInt8))(e:List Typ)(f:List TFd)(vn:Int)(vt:List UInt8)(vl:List Val)(vf:List Fld)(hk:k=2\/k=6\/k=7):am Tryz.prog az 189 [(Typ.mk k m M s w e f).pv,(Val.mk k vn s vt vl vf).pv] (.bool (bw (n+1) (.mk k m M s w e f) (.mk k vn s vt vl vf))):=by
 have hi:=bf vn m M
 rw[show bw (n+1) (.mk k m M s w e f) (.mk k vn s vt vl vf)=inB vn m M by
  have hk':k=2\/k=6\/k=7\/k=3:=by omega
  simp[bw,oZ,Typ.kind,Val.kind,hk',Ni,Val.num,Typ.min,Typ.max,Val.scale,Typ.scale]]
 generalize inB vn m M=b at hi ⊢
 rcases hk with rfl | rfl | rfl
 all_goals
  refine am.intro gp.2 (by simp[gp]) ?_
  simp(disch:=try exact dI) only[gp,Typ.pv_mk,Val.pv_mk,push_cast,seval]
  refine ab.pure hi rfl ?_
  exact qsZ
theorem EQ (n:Nat)(m M s:Int)(w:List (List UInt8))(e:List Typ)(f:List TFd)(vn vs:Int)(vt:List UInt8)(vl:List Val)(vf:List Fld):am Tryz.prog az 189 [(Typ.mk 3 m M s w e f).pv,(Val.mk 3 vn vs vt vl vf).pv] (.bool (bw (n+1) (.mk 3 m M s w e f) (.mk 3 vn vs vt vl vf))):=by
 have hi:=bf vn m M
 rw[show bw (n+1) (.mk 3 m M s w e f) (.mk 3 vn vs vt vl vf)=(inB vn m M&&decide (vs=s)) by simp[bw,oZ,Typ.kind,Val.kind,Ni,Val.num,Typ.min,Typ.max,Val.scale,Typ.scale];rfl]
 generalize inB vn m M=b at hi ⊢
 refine am.intro gp.2 (by simp[gp]) ?_
 by_cases hs:vs=s
 ·rw[decide_eq_true hs,Bool.and_true]
  simp(disch:=try exact dI) only[gp,Typ.pv_mk,Val.pv_mk,hs,push_cast,seval]
  refine ab.pure hi rfl ?_
  exact qsZ
 ·rw[decide_eq_false hs,Bool.and_false]
  simp(disch:=try exact dI) only[gp,Typ.pv_mk,Val.pv_mk,hs,push_cast,seval]
theorem jy {α:Type}{p:α->Bool}{l:List α}{i:Nat}{x:α}(h:l[i]? = some x):(l.drop i).any p=(p x||(l.drop (i+1)).any p):=by
 have hi:=(List.getElem?_eq_some_iff.1 h).1
 have he:l[i]=x:=(List.getElem?_eq_some_iff.1 h).2
 rw[List.drop_eq_getElem_cons hi,he,List.any_cons]
theorem EP (n:Nat)(m M s:Int)(w:List (List UInt8))(e:List Typ)(f:List TFd)(vn vs:Int)(vt:List UInt8)(vl:List Val)(vf:List Fld)(hw:w.length<=9000000000000):am Tryz.prog az 189 [(Typ.mk 4 m M s w e f).pv,(Val.mk 4 vn vs vt vl vf).pv] (.bool (bw (n+1) (.mk 4 m M s w e f) (.mk 4 vn vs vt vl vf))):=by
 have hi:=bf vt.length m M
 rw[show bw (n+1) (.mk 4 m M s w e f) (.mk 4 vn vs vt vl vf)=if 0<w.length then w.any (fun x=>decide (x=vt)) else inB vt.length m M by simp[bw,oZ,Typ.kind,Val.kind,NO,Val.text,Typ.min,Typ.max,Typ.words];rfl]
 generalize inB vt.length m M=b at hi ⊢
 obtain⟨R,hR⟩:∃ R,R=if 0<w.length then w.any (fun x=>decide (x=vt)) else b:=⟨_,rfl⟩
 rw[<- hR]
 refine am.intro gp.2 (by simp[gp]) ?_
 simp(disch:=try exact dI) only[gp,Typ.pv_mk,Val.pv_mk,push_cast,seval]
 refine au ([]) (fun i:Nat=>[(5,.pv (.int .i64 (i:Int)))]) (fun _=>[]) (fun i=>i<=w.length/\R=(if 0<w.length then (w.drop i).any (fun x=>decide (x=vt)) else b)) (fun i=>w.length - i) (0) ?_;intro e0 σ0 n0 h0;simp(disch:=try exact dI) only[push_cast,seval] at h0;obtain⟨rfl,rfl,rfl⟩:=h0;refine⟨?_,?_,?_⟩
 ·exact qsZ
 ·exact⟨by omega,by simpa using hR⟩
 rintro i ⟨hle,hr⟩
 by_cases hlt:i<w.length
 ·have hltI:(i:Int)<(w.length:Int):=by omega
  obtain⟨x,hx⟩:∃ x,w[i]? = some x:=⟨_,List.getElem?_eq_getElem hlt⟩
  rw[jy hx] at hr
  by_cases hv:x=vt
  ·rw[if_pos (by omega),decide_eq_true hv,Bool.true_or] at hr
   subst hr
   simp(disch:=try exact dI) only[hx,Option.map_some,hv,push_cast,seval]
  ·rw[decide_eq_false hv,Bool.false_or] at hr
   simp(disch:=try exact dI) only[hx,Option.map_some,hv,push_cast,seval]
   exact⟨i+1,aM qsZ,⟨by omega,hr⟩,by omega⟩
 ·obtain rfl:i=w.length:=by omega
  rw[List.drop_length,List.any_nil] at hr
  by_cases h0:0<w.length
  ·have h0I:¬ (w.length:Int)=0:=by omega
   rw[if_pos h0] at hr
   subst hr
   simp(disch:=try exact dI) only[Int.lt_irrefl,h0I,push_cast,seval]
  ·have h0I:(w.length:Int)=0:=by omega
   rw[if_neg h0] at hr
   subst hr
   simp(disch:=try exact dI) only[Int.lt_irrefl,h0I,push_cast,seval]
   refine ab.pure hi rfl ?_
   exact qsZ
theorem EO (n:Nat)(m M s:Int)(w:List (List UInt8))(e:List Typ)(f:List TFd)(vn vs:Int)(vt:List UInt8)(vl:List Val)(vf:List Fld):am Tryz.prog az 189 [(Typ.mk 5 m M s w e f).pv,(Val.mk 5 vn vs vt vl vf).pv] (.bool (bw (n+1) (.mk 5 m M s w e f) (.mk 5 vn vs vt vl vf))):=by
 have hi:=bf vt.length m M
 rw[show bw (n+1) (.mk 5 m M s w e f) (.mk 5 vn vs vt vl vf)=inB vt.length m M by simp[bw,oZ,Typ.kind,Val.kind,Val.text,Typ.min,Typ.max]]
 generalize inB vt.length m M=b at hi ⊢
 refine am.intro gp.2 (by simp[gp]) ?_
 simp(disch:=try exact dI) only[gp,Typ.pv_mk,Val.pv_mk,push_cast,seval]
 refine ab.pure hi rfl ?_
 exact qsZ
theorem ER (n:Nat)(m M s:Int)(w:List (List UInt8))(e:List Typ)(f:List TFd)(vn vs:Int)(vt:List UInt8)(vl:List Val)(vf:List Fld):am Tryz.prog az 189 [(Typ.mk 1 m M s w e f).pv,(Val.mk 1 vn vs vt vl vf).pv] (.bool (bw (n+1) (.mk 1 m M s w e f) (.mk 1 vn vs vt vl vf))):=by
 rw[show bw (n+1) (.mk 1 m M s w e f) (.mk 1 vn vs vt vl vf)=true by simp[bw,oZ,Typ.kind,Val.kind]]
 refine am.intro gp.2 (by simp[gp]) ?_
 simp(disch:=try exact dI) only[gp,Typ.pv_mk,Val.pv_mk,push_cast,seval]
theorem EN (n:Nat)(ih:s7 n)(m M s:Int)(w:List (List UInt8))(e:List Typ)(f:List TFd)(vn vs:Int)(vt:List UInt8)(vl:List Val)(vf:List Fld)(hl:vl.length<=9000000000000)(h:∀ y∈vl,∃ x r,e=x::r/\ou n x y):am Tryz.prog az 189 [(Typ.mk 8 m M s w e f).pv,(Val.mk 8 vn vs vt vl vf).pv] (.bool (bw (n+1) (.mk 8 m M s w e f) (.mk 8 vn vs vt vl vf))):=by
 have hi:=bf vl.length m M
 rw[show bw (n+1) (.mk 8 m M s w e f) (.mk 8 vn vs vt vl vf)=(inB vl.length m M&&!(vl.any (fun x=>!(uS (fun e=>bw n e x) e)))) by simp[bw,oZ,Typ.kind,Val.kind,Val.lst,Typ.min,Typ.max,Typ.elem]]
 generalize inB vl.length m M=b at hi ⊢
 obtain⟨p,hp⟩:∃ p:Val->Bool,p=fun x=>!(uS (fun e=>bw n e x) e):=⟨_,rfl⟩
 rw[<- hp]
 obtain⟨R,hR⟩:∃ R,R=(b&&!(vl.any p)):=⟨_,rfl⟩
 rw[<- hR]
 refine am.intro gp.2 (by simp[gp]) ?_
 simp(disch:=try exact dI) only[gp,Typ.pv_mk,Val.pv_mk,push_cast,seval]
 refine au ([]) (fun i:Nat=>[(6,.pv (.int .i64 (i:Int)))]) (fun _=>[]) (fun i=>i<=vl.length/\R=(b&&!((vl.drop i).any p))) (fun i=>vl.length - i) (0) ?_;intro e0 σ0 n0 h0;simp(disch:=try exact dI) only[push_cast,seval] at h0;obtain⟨rfl,rfl,rfl⟩:=h0;refine⟨?_,?_,?_⟩
 ·exact qsZ
 ·exact⟨by omega,by simpa using hR⟩
 rintro i ⟨hle,hr⟩
 by_cases hlt:i<vl.length
 ·have hltI:(i:Int)<(vl.length:Int):=by omega
  obtain⟨y,hy⟩:∃ x,vl[i]? = some x:=⟨_,List.getElem?_eq_getElem hlt⟩
  obtain⟨x,r,rfl,hxy⟩:=h y (List.mem_of_getElem? hy)
  have hc:=ih x y hxy
  rw[jy hy,show p y=!(bw n x y) by rw[hp];rfl] at hr
  generalize bw n x y=q at hc hr
  have hel:¬ ((x::r).length:Int)=0:=by rw[List.length_cons];omega
  obtain⟨k',m',M',s',w',e',f'⟩:=x
  obtain⟨yk,yn,ys,yt,yl,yf⟩:=y
  simp only[Typ.pv_mk,Val.pv_mk] at hc
  cases q with
  | false=>
    simp only[Bool.not_false,Bool.true_or,Bool.not_true,Bool.and_false] at hr
    subst hr
    simp(disch:=try exact dI) only[hy,Option.map_some,Typ.pv_mk,Val.pv_mk,aS,push_cast,seval]
    refine ab.pure hc rfl ?_
    exact qsZ
  | true=>
    simp only[Bool.not_true,Bool.false_or] at hr
    simp(disch:=try exact dI) only[hy,Option.map_some,Typ.pv_mk,Val.pv_mk,aS,push_cast,seval]
    refine ab.pure hc rfl ?_
    refine zgZ ?_
    exact⟨i+1,aM qsZ,⟨by omega,hr⟩,by omega⟩
 ·obtain rfl:i=vl.length:=by omega
  rw[List.drop_length,List.any_nil,Bool.not_false,Bool.and_true] at hr
  subst hr
  simp(disch:=try exact dI) only[Int.lt_irrefl,push_cast,seval]
  refine ab.pure hi rfl ?_
  exact qsZ
end Go.Proofs.YtbojpfpliibfbaaGreatDoor
-- many steps
namespace Go.Proofs.YtbojpfpliibfbaaGreatDoor
open Go Go.Ab
attribute [local irreducible] vc
theorem xy {N:Nat}{k m M s:Int}{w:List (List UInt8)}{e:List Typ}{f:List TFd}(hs:bD N (.mk k m M s w e f)):f.length<=9000000000000:=by
 cases N with
 | zero=>exact hs.elim
 | succ N=>simp only[bD] at hs;have:=hs.2.2.1;omega
theorem Aj (n:Nat)(ih:s7 n)(m M s:Int)(w:List (List UInt8))(e:List Typ)(f:List TFd)(vn vs:Int)(vt:List UInt8)(vl:List Val)(vf:List Fld)(hfl:f.length<=9000000000000)
  (h:∀ g,bz (.mk 10 m M s w e f) vt=some g->∃ y r,vl=y::r/\ou n g.typ y):am Tryz.prog az 189 [(Typ.mk 10 m M s w e f).pv,(Val.mk 10 vn vs vt vl vf).pv] (.bool (bw (n+1) (.mk 10 m M s w e f) (.mk 10 vn vs vt vl vf))):=by
 have hc:=su m M s w e f 10 vt hfl
 rw[show bw (n+1) (.mk 10 m M s w e f) (.mk 10 vn vs vt vl vf)=G8 (bw n) vl (bz (.mk 10 m M s w e f) vt) by simp[bw,oZ,Typ.kind,Val.kind,Val.lst,Val.text]]
 rw[show bz (.mk 10 m M s w e f) vt=f.find? (named vt) from if_pos (.inr rfl)] at h ⊢
 simp only[Typ.pv_mk] at hc
 rcases bx (p:=named vt) f 0 with ⟨h1,h2⟩ | ⟨i,g,h1,h2,h3⟩
 ·rw[h1]
  rw[h2] at hc
  simp only[G8]
  refine am.intro gp.2 (by simp[gp]) ?_
  simp(disch:=try exact dI) only[gp,Typ.pv_mk,Val.pv_mk,push_cast,seval]
  refine ab.pure hc rfl ?_
  exact qsZ
 ·rw[h2] at h ⊢
  rw[h3,Nat.zero_add] at hc
  obtain⟨y,r,rfl,hy⟩:=h g rfl
  have hh:=ih _ _ hy
  obtain⟨n',nm',nd',⟨k',m',M',s',w',e',f'⟩,d'⟩:=g
  simp only[TFd.typ,G8,qA] at hh ⊢
  generalize bw n (.mk k' m' M' s' w' e' f') y=b at hh ⊢
  obtain⟨yk,yn,ys,yt,yl,yf⟩:=y
  simp only[Typ.pv_mk,Val.pv_mk] at hh
  have hi0:(0:Int)<=(i:Int):=by omega
  refine am.intro gp.2 (by simp[gp]) ?_
  simp(disch:=try exact dI) only[gp,Typ.pv_mk,Val.pv_mk,push_cast,seval]
  refine ab.pure hc rfl ?_
  simp(disch:=try exact dI) only[h1,Option.map_some,TFd.pv_mk,Typ.pv_mk,ag,aS,Val.pv_mk,push_cast,seval]
  refine ab.pure hh rfl ?_
  exact qsZ
theorem AI (vn vs:Int)(vt:List UInt8)(vl:List Val)(vf:List Fld)(name:List UInt8)(hl:vf.length<=9000000000000):am Tryz.prog az 25 [(Val.mk 9 vn vs vt vl vf).pv,.str name] (.int .i64 (d7 (bc name) vf 0)):=by
 refine am.intro Q25.2 (by simp[Q25]) ?_
 simp(disch:=try exact dI) only[Q25,Val.pv_mk,push_cast,seval]
 refine au ([]) (fun i:Nat=>[(5,.pv (.int .i64 (i:Int)))]) (fun _=>[]) (fun i=>i<=vf.length/\d7 (bc name) vf 0=d7 (bc name) (vf.drop i) i) (fun i=>vf.length - i) (0) ?_;intro e0 σ0 n0 h0;simp(disch:=try exact dI) only[push_cast,seval] at h0;obtain⟨rfl,rfl,rfl⟩:=h0;refine⟨?_,?_,?_⟩
 ·exact qsZ
 ·exact⟨by omega,by simp⟩
 rintro i ⟨hi,he⟩
 by_cases hlt:i<vf.length
 ·have hltI:(i:Int)<(vf.length:Int):=by omega
  obtain⟨x,hx⟩:∃ x,vf[i]? = some x:=⟨_,List.getElem?_eq_getElem hlt⟩
  have hhit:=fun h=>dX (p:=bc name) hx h
  have hmiss:=fun h=>cQ (p:=bc name) hx h
  obtain⟨x2,⟨y1,y2,y3,y4,y5,y6⟩⟩:=x
  simp only[bc,Fld.name] at hhit hmiss
  by_cases hn:x2=name
  ·rw[he,hhit (decide_eq_true hn)]
   simp(disch:=try exact dI) only[hx,Option.map_some,hn,Fld.pv_mk,Val.pv_mk,ag,push_cast,seval]
  ·simp(disch:=try exact dI) only[hx,Option.map_some,hn,Fld.pv_mk,Val.pv_mk,ag,push_cast,seval]
   exact⟨i+1,aM qsZ,⟨by omega,by rw[he];exact hmiss (decide_eq_false hn)⟩,by omega⟩
 ·obtain rfl:i=vf.length:=by omega
  rw[he,dY (by omega)]
  simp(disch:=try exact dI) only[Int.lt_irrefl,push_cast,seval]
end Go.Proofs.YtbojpfpliibfbaaGreatDoor
-- many steps
namespace Go.Proofs.YtbojpfpliibfbaaGreatDoor
open Go Go.Ab
attribute [local irreducible] vc
theorem xV (n:Nat)(ih:s7 n)(m M s:Int)(w:List (List UInt8))(e:List Typ)(f:List TFd)(vn vs:Int)(vt:List UInt8)(vl:List Val)(vf:List Fld)(hfl:f.length<=9000000000000)(hvf:vf.length<=9000000000000)
  (h:∀ x∈vf,∀ g,bz (.mk 9 m M s w e f) x.name=some g->ou n g.typ x.value):am Tryz.prog az 239 [(Typ.mk 9 m M s w e f).pv,(Val.mk 9 vn vs vt vl vf).pv] (.bool ((vf.all fun x=>tI (bw n) x.value (bz (.mk 9 m M s w e f) x.name))&&!(f.any (i8 (.mk 9 vn vs vt vl vf))))):=by
 have hfld:=fun nm=>su m M s w e f 9 nm hfl
 have hfnd:=fun nm=>AI vn vs vt vl vf nm (by omega)
 have hT:∀ nm,bz (.mk 9 m M s w e f) nm=f.find? (named nm):=fun nm=>if_pos (.inl rfl)
 simp only[hT] at h ⊢
 clear hT
 obtain⟨p,hp⟩:∃ p:Fld->Bool,p=fun x=>tI (bw n) x.value (f.find? (named x.name)):=⟨_,rfl⟩
 rw[<- hp]
 obtain⟨L,hL⟩:∃ L:TFd->Bool,L=i8 (.mk 9 vn vs vt vl vf):=⟨_,rfl⟩
 rw[<- hL]
 obtain⟨R,hR⟩:∃ R,R=(vf.all p&&!(f.any L)):=⟨_,rfl⟩
 rw[<- hR]
 simp only[Typ.pv_mk,Val.pv_mk] at hfld hfnd
 refine am.intro Pk.2 (by simp[Pk]) ?_
 simp(disch:=try exact dI) only[Pk,Typ.pv_mk,Val.pv_mk,push_cast,seval]
 refine au ([]) (fun i:Nat=>[(5,.pv (.int .i64 (i:Int)))]) (fun _=>[]) (fun i=>i<=vf.length/\R=((vf.drop i).all p&&!(f.any L))) (fun i=>vf.length - i) (0) ?_;intro e0 σ0 n0 h0;simp(disch:=try exact dI) only[push_cast,seval] at h0;obtain⟨rfl,rfl,rfl⟩:=h0;refine⟨?_,?_,?_⟩
 ·exact qsZ
 ·exact⟨by omega,by simpa using hR⟩
 rintro i ⟨hi,hr⟩
 by_cases hlt:i<vf.length
 ·have hltI:(i:Int)<(vf.length:Int):=by omega
  obtain⟨x,hx⟩:∃ x,vf[i]? = some x:=⟨_,List.getElem?_eq_getElem hlt⟩
  rw[sX hx] at hr
  have hph:=h x (List.mem_of_getElem? hx)
  have hc:=hfld x.name
  rw[show p x=tI (bw n) x.value (f.find? (named x.name)) by rw[hp]] at hr
  obtain⟨xn,y⟩:=x
  simp only[Fld.name,Fld.value] at hph hc hr
  rcases bx (p:=named xn) f 0 with ⟨h1,h2⟩ | ⟨j,g,h1,h2,h3⟩
  ·rw[h2] at hc
   rw[h1] at hr
   simp only[tI,Bool.false_and] at hr
   subst hr
   obtain⟨yk,yn,ys,yt,yl,yf⟩:=y
   simp(disch:=try exact dI) only[hx,Option.map_some,Fld.pv_mk,Val.pv_mk,ag,push_cast,seval]
   refine ab.pure hc rfl ?_
   exact qsZ
  ·rw[h3,Nat.zero_add] at hc
   rw[h2] at hr
   have hh:=ih _ _ (hph g h2)
   have hj0:(0:Int)<=(j:Int):=by omega
   have hj1:¬ (j:Int)<0:=by omega
   simp only[tI] at hr
   obtain⟨n',nm',nd',⟨k',m',M',s',w',e',f'⟩,d'⟩:=g
   simp only[TFd.typ] at hh hr
   generalize bw n (.mk k' m' M' s' w' e' f') y=b at hh hr
   obtain⟨yk,yn,ys,yt,yl,yf⟩:=y
   simp only[Typ.pv_mk,Val.pv_mk] at hh
   cases b with
   | false=>
     simp only[Bool.false_and] at hr
     subst hr
     simp(disch:=try exact dI) only[hx,Option.map_some,Fld.pv_mk,Val.pv_mk,ag,push_cast,seval]
     refine ab.pure hc rfl ?_
     simp(disch:=try exact dI) only[hx,h1,Option.map_some,Fld.pv_mk,Val.pv_mk,TFd.pv_mk,Typ.pv_mk,ag,push_cast,seval]
     refine ab.pure hh rfl ?_
     exact qsZ
   | true=>
     rw[Bool.true_and] at hr
     simp(disch:=try exact dI) only[hx,Option.map_some,Fld.pv_mk,Val.pv_mk,ag,push_cast,seval]
     refine ab.pure hc rfl ?_
     simp(disch:=try exact dI) only[hx,h1,Option.map_some,Fld.pv_mk,Val.pv_mk,TFd.pv_mk,Typ.pv_mk,ag,push_cast,seval]
     refine ab.pure hh rfl ?_
     refine zgZ ?_
     exact⟨i+1,aM qsZ,⟨by omega,hr⟩,by omega⟩
 obtain rfl:i=vf.length:=by omega
 rw[List.drop_length,List.all_nil,Bool.true_and] at hr
 clear hR hi hlt h hp
 simp(disch:=try exact dI) only[Int.lt_irrefl,push_cast,seval]
 refine au ([]) (fun i:Nat=>[(7,.pv (.int .i64 (i:Int)))]) (fun _=>[]) (fun i=>i<=f.length/\R=!((f.drop i).any L)) (fun i=>f.length - i) (0) ?_;intro e0 σ0 n0 h0;simp(disch:=try exact dI) only[push_cast,seval] at h0;obtain⟨rfl,rfl,rfl⟩:=h0;refine⟨?_,?_,?_⟩
 ·exact qsZ
 ·exact⟨by omega,by simpa using hr⟩
 clear hr
 rintro i ⟨hi,hr⟩
 by_cases hlt:i<f.length
 ·have hltI:(i:Int)<(f.length:Int):=by omega
  obtain⟨g,hg⟩:∃ g,f[i]? = some g:=⟨_,List.getElem?_eq_getElem hlt⟩
  rw[jy hg,show L g=i8 (.mk 9 vn vs vt vl vf) g by rw[hL]] at hr
  obtain⟨n',nm',nd',⟨k',m',M',s',w',e',f'⟩,d'⟩:=g
  have hc:=hfnd nm'
  simp only[i8,Val.fields] at hr
  by_cases h2:nd'=2
  ·rw[decide_eq_true h2,Bool.not_true,Bool.and_false,Bool.false_or] at hr
   simp(disch:=try exact dI) only[hg,Option.map_some,TFd.pv_mk,Typ.pv_mk,ag,h2,push_cast,seval]
   exact⟨i+1,aM qsZ,⟨by omega,hr⟩,by omega⟩
  ·rw[decide_eq_false h2,Bool.not_false,Bool.and_true] at hr
   rcases bx (p:=bc nm') vf 0 with ⟨h1,h3⟩ | ⟨j,x,h1,h3,h4⟩
   ·rw[h1,Option.isNone_none,Bool.true_or,Bool.not_true] at hr
    rw[h3] at hc
    subst hr
    simp(disch:=try exact dI) only[hg,Option.map_some,TFd.pv_mk,Typ.pv_mk,ag,h2,push_cast,seval]
    refine ab.pure hc rfl ?_
    exact qsZ
   ·rw[h3,Option.isNone_some,Bool.false_or] at hr
    rw[h4,Nat.zero_add] at hc
    have hj1:¬ (j:Int)<0:=by omega
    simp(disch:=try exact dI) only[hg,Option.map_some,TFd.pv_mk,Typ.pv_mk,ag,h2,push_cast,seval]
    refine ab.pure hc rfl ?_
    refine zgZ ?_
    exact⟨i+1,aM qsZ,⟨by omega,hr⟩,by omega⟩
 ·obtain rfl:i=f.length:=by omega
  rw[List.drop_length,List.any_nil,Bool.not_false] at hr
  subst hr
  simp(disch:=try exact dI) only[Int.lt_irrefl,push_cast,seval]
theorem Gt:∀ n,s7 n
 | 0=>fun _ _ h=>h.elim
 | n+1=>fun t v h=>by
   have ih:=Gt n
   simp only[ou] at h
   obtain⟨⟨N,hs⟩,hkk,hw,hv,hl,hf,h⟩:=h
   by_cases hk:v.kind=t.kind
   ·have h:=h hk
    obtain⟨k,m,M,s,w,e,f⟩:=t
    obtain⟨vk,vn,vs,vt,vl,vf⟩:=v
    have hfl:=xy hs
    simp only[Val.kind,Typ.kind,Typ.words,Val.lst,Val.fields,Val.text,Typ.elem,Val.scale,Typ.scale] at hk h hw hl hf hkk
    subst hk
    obtain⟨h2,h8,h10,h9⟩:=h
    by_cases h1:vk=2\/vk=6\/vk=7
    ·obtain rfl:=h2 h1
     exact uT n _ _ _ _ _ _ _ _ _ _ _ h1
    have hc:vk=1\/vk=3\/vk=4\/vk=5\/vk=8\/vk=9\/vk=10:=by omega
    clear hkk h1 h2
    rcases hc with rfl | rfl | rfl | rfl | rfl | rfl | rfl
    ·exact ER n _ _ _ _ _ _ _ _ _ _ _
    ·exact EQ n _ _ _ _ _ _ _ _ _ _ _
    ·exact EP n _ _ _ _ _ _ _ _ _ _ _ hw
    ·exact EO n _ _ _ _ _ _ _ _ _ _ _
    ·exact EN n ih _ _ _ _ _ _ _ _ _ _ _ hl (h8 rfl)
    ·have hrec:=xV n ih m M s w e f vn vs vt vl vf hfl hf (h9 rfl)
     rw[show bw (n+1) (.mk 9 m M s w e f) (.mk 9 vn vs vt vl vf)=((vf.all fun x=>tI (bw n) x.value (bz (.mk 9 m M s w e f) x.name))&&!(f.any (i8 (.mk 9 vn vs vt vl vf)))) by simp[bw,oZ,Typ.kind,Val.kind,Val.fields,Typ.fields]]
     generalize ((vf.all fun x=>tI (bw n) x.value (bz (.mk 9 m M s w e f) x.name))&&!(f.any (i8 (.mk 9 vn vs vt vl vf))))=b at hrec ⊢
     simp only[Typ.pv_mk,Val.pv_mk] at hrec
     refine am.intro gp.2 (by simp[gp]) ?_
     simp(disch:=try exact dI) only[gp,Typ.pv_mk,Val.pv_mk,push_cast,seval]
     refine ab.pure hrec rfl ?_
     exact qsZ
    ·exact Aj n ih _ _ _ _ _ _ _ _ _ _ _ hfl (h10 rfl)
   ·exact Ai n t v hk
end Go.Proofs.YtbojpfpliibfbaaGreatDoor
