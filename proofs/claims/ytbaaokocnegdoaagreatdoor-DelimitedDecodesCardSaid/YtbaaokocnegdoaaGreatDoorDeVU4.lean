/- A part of the proof. -/
import Derived.Test.YtbaaokocnegdoaaGreatDoorDeVSi
set_option linter.unusedVariables false
set_option linter.unusedSimpArgs false
set_option maxHeartbeats 16000000
set_option maxRecDepth 100000
namespace Go.Proofs.YtbaaokocnegdoaaGreatDoor
open Go Go.Ab
attribute [local irreducible] vc
section
variable (m M s:Int)(w:List (List UInt8))(e:List Typ)(f:List TFd)
theorem A0 (k:Int)(hk:1<=k/\k<=10):ak Tryz.prog aq 196 [(Typ.mk k m M s w e f).pv] (.bool (eW k (.mk k m M s w e f))):=by
 have hi:=ln k 2 8
 obtain⟨r,hr⟩:∃ r,r=eW k (.mk k m M s w e f):=⟨_,rfl⟩
 have h9:decide (9<=k)=(decide (k=9)||decide (k=10)):=by rw[Bool.eq_iff_iff];simp;omega
 rw[<- hr]
 simp only[eW,i6,h9] at hr
 rw[show (decide (2<=k)&&decide (k<=8))=inB k 2 8 from rfl] at hr
 generalize inB k 2 8=B at hi hr
 refine ak.intro T9.2 (by simp[T9]) ?_
 have h1:(B=false/\¬ m=0)\/(B=false/\m=0/\¬ M=0)\/(B=false/\m=0/\M=0)\/B=true:=by cases B<;>simp<;>omega
 have h2:(¬ k=3/\¬ s=0)\/(¬ k=3/\s=0)\/k=3:=by omega
 have h3:(¬ k=4/\(0:Int)<(w.length:Int)/\¬ w.length=0)\/(¬ k=4/\¬ (0:Int)<(w.length:Int)/\w.length=0)\/k=4:=by omega
 have h4:(¬ k=8/\(0:Int)<(e.length:Int)/\¬ e.length=0)\/(¬ k=8/\¬ (0:Int)<(e.length:Int)/\e.length=0)\/k=8:=by omega
 have h5:((¬ k=9/\¬ k=10)/\(0:Int)<(f.length:Int)/\¬ f.length=0)\/((¬ k=9/\¬ k=10)/\¬ (0:Int)<(f.length:Int)/\f.length=0)\/k=9\/k=10:=by omega
 rcases h1 with ⟨rfl,a⟩ | ⟨rfl,a,b⟩ | ⟨rfl,a,b⟩ | rfl
 all_goals first | (refine aM (c:=true) hr ?_ ?_;(focus (simp[*];done));rintro rfl;have hend:=trivial;clear h2 h3 h4 h5) | rcases h2 with ⟨a2,b2⟩ | ⟨a2,b2⟩ | a2
 all_goals first | (have:=hend;skip) | (refine aM (c:=true) hr ?_ ?_;(focus (simp[*];done));rintro rfl;have hend:=trivial;clear h3 h4 h5) | rcases h3 with ⟨a3,b3,c3⟩ | ⟨a3,b3,c3⟩ | a3
 all_goals try omega
 all_goals first | (have:=hend;skip) | (refine aM (c:=true) hr ?_ ?_;(focus (simp[*];done));rintro rfl;have hend:=trivial;clear h4 h5) | rcases h4 with ⟨a4,b4,c4⟩ | ⟨a4,b4,c4⟩ | a4
 all_goals try omega
 all_goals first | (have:=hend;skip) | (refine aM (c:=true) hr ?_ ?_;(focus (simp[*];done));rintro rfl;have hend:=trivial;clear h5) | rcases h5 with ⟨⟨a5,d5⟩,b5,c5⟩ | ⟨⟨a5,d5⟩,b5,c5⟩ | a5 | a5
 all_goals try omega
 all_goals first | (have:=hend;skip) | (refine aM (c:=true) hr ?_ ?_;(focus (simp[*];done));rintro rfl) | (refine aM (c:=false) hr ?_ ?_;(focus (simp[*];done));rintro rfl)
 all_goals clear hr
 all_goals first | (refine aM (r:=k) (c:=3) rfl ?_ ?_;(focus omega);rintro rfl) | (refine aM (r:=k) (c:=4) rfl ?_ ?_;(focus omega);rintro rfl) | (refine aM (r:=k) (c:=8) rfl ?_ ?_;(focus omega);rintro rfl) | (refine aM (r:=k) (c:=9) rfl ?_ ?_;(focus omega);rintro rfl) | (refine aM (r:=k) (c:=10) rfl ?_ ?_;(focus omega);rintro rfl) | skip
 all_goals
  simp(disch:=try exact dI) only[T9,Typ.pv_mk, *,push_cast,seval]
  refine ab.pure hi rfl ?_
  simp(disch:=try exact dI) only[*,push_cast,seval]
theorem Dm (k:Int)(hk:2<=k/\k<=8):ak Tryz.prog aq 198 [.int .i64 k] (.tup [.int .i64 (loK k),.int .i64 (hiK k)]):=by
 have hc:k=2\/k=3\/k=4\/k=5\/k=6\/k=7\/k=8:=by omega
 clear hk
 rcases hc with rfl | rfl | rfl | rfl | rfl | rfl | rfl
 all_goals
  refine ak.intro O3.2 (by simp[O3]) ?_
  simp only[loK,hiK]
  simp(disch:=try exact dI) only[O3,push_cast,seval]
theorem Fc (k a b:Int):ak Tryz.prog aq 199 [(Typ.mk k m M s w e f).pv,.int .i64 a,.int .i64 b] (.bool (decide (¬ (M<m\/m<a\/b<M)))):=by
 refine ak.intro O0.2 (by simp[O0]) ?_
 by_cases h1:a<=m
 ·by_cases h2:M<=b
  ·by_cases h3:m<=M
   ·rw[decide_eq_true (show ¬ (M<m\/m<a\/b<M) by omega)]
    simp(disch:=try exact dI) only[O0,Typ.pv_mk,h1,h2,h3,push_cast,seval]
   ·rw[decide_eq_false (show ¬ ¬ (M<m\/m<a\/b<M) by omega)]
    simp(disch:=try exact dI) only[O0,Typ.pv_mk,h1,h2,h3,push_cast,seval]
  ·rw[decide_eq_false (show ¬ ¬ (M<m\/m<a\/b<M) by omega)]
   simp(disch:=try exact dI) only[O0,Typ.pv_mk,h1,h2,push_cast,seval]
 ·rw[decide_eq_false (show ¬ ¬ (M<m\/m<a\/b<M) by omega)]
  simp(disch:=try exact dI) only[O0,Typ.pv_mk,h1,push_cast,seval]
theorem vq (k:Int)(name:List UInt8)(hl:f.length<=1000000000):ak Tryz.prog aq 252 [(Typ.mk k m M s w e f).pv,.str name] (.int .i64 (eZ (named name) f 0)):=by
 refine ak.intro T1.2 (by simp[T1]) ?_
 simp(disch:=try exact dI) only[T1,Typ.pv_mk,push_cast,seval]
 refine ap ([]) (fun i:Nat=>[(5,.pv (.int .i64 (i:Int)))]) (fun _=>[]) (fun i=>i<=f.length/\eZ (named name) f 0=eZ (named name) (f.drop i) i) (fun i=>f.length - i) (0) ?_;intro e0 σ0 n0 h0;simp(disch:=try exact dI) only[push_cast,seval] at h0;obtain⟨rfl,rfl,rfl⟩:=h0;refine⟨?_,?_,?_⟩
 ·exact qsZ
 ·exact⟨by omega,by simp⟩
 rintro i ⟨hi,he⟩
 by_cases hlt:i<f.length
 ·have hltI:(i:Int)<(f.length:Int):=by omega
  obtain⟨x,hx⟩:∃ x,f[i]? = some x:=⟨_,List.getElem?_eq_getElem hlt⟩
  have hhit:=fun h=>fq (p:=named name) hx h
  have hmiss:=fun h=>dG (p:=named name) hx h
  obtain⟨x1,x2,x3,⟨y1,y2,y3,y4,y5,y6,y7⟩,x5⟩:=x
  simp only[named,TFd.name] at hhit hmiss
  by_cases hn:x2=name
  ·rw[he,hhit (decide_eq_true hn)]
   simp(disch:=try exact dI) only[hx,Option.map_some,hn,TFd.pv_mk,Typ.pv_mk,ag,push_cast,seval]
  ·simp(disch:=try exact dI) only[hx,Option.map_some,hn,TFd.pv_mk,Typ.pv_mk,ag,push_cast,seval]
   exact⟨i+1,aK qsZ,⟨by omega,by rw[he];exact hmiss (decide_eq_false hn)⟩,by omega⟩
 ·obtain rfl:i=f.length:=by omega
  rw[he,ft (by omega)]
  simp(disch:=try exact dI) only[Int.lt_irrefl,push_cast,seval]
end
def wg (n:Nat):Prop:=∀ t v,qE n t v->ak Tryz.prog aq 202 [t.pv,v.pv] (.bool (bm n t v))
theorem DV (n:Nat)(t:Typ)(v:Val)(h:¬ v.kind=t.kind):ak Tryz.prog aq 202 [t.pv,v.pv] (.bool (bm (n+1) t v)):=by
 rw[show bm (n+1) t v=false by simp[bm,h]]
 obtain⟨k,m,M,s,w,e,f⟩:=t
 obtain⟨vk,vn,vs,vt,vl,vf⟩:=v
 simp only[Val.kind,Typ.kind] at h
 have h':¬ k=vk:=fun e=>h e.symm
 refine ak.intro gE.2 (by simp[gE]) ?_
 simp(disch:=try exact dI) only[gE,Typ.pv_mk,Val.pv_mk,h',push_cast,seval]
theorem yy (n:Nat)(k m M s:Int)(w:List (List UInt8))(e:List Typ)(f:List TFd)(vn:Int)(vt:List UInt8)(vl:List Val)(vf:List Fld)(hk:k=2\/k=6\/k=7):ak Tryz.prog aq 202 [(Typ.mk k m M s w e f).pv,(Val.mk k vn s vt vl vf).pv] (.bool (bm (n+1) (.mk k m M s w e f) (.mk k vn s vt vl vf))):=by
 have hi:=ln vn m M
 rw[show bm (n+1) (.mk k m M s w e f) (.mk k vn s vt vl vf)=inB vn m M by
  have hk':k=2\/k=6\/k=7\/k=3:=by omega
  simp[bm,qF,Typ.kind,Val.kind,hk',ON,Val.num,Typ.min,Typ.max,Val.scale,Typ.scale]]
 generalize inB vn m M=b at hi ⊢
 rcases hk with rfl | rfl | rfl
 all_goals
  refine ak.intro gE.2 (by simp[gE]) ?_
  simp(disch:=try exact dI) only[gE,Typ.pv_mk,Val.pv_mk,push_cast,seval]
  refine ab.pure hi rfl ?_
  exact qsZ
theorem IT (n:Nat)(m M s:Int)(w:List (List UInt8))(e:List Typ)(f:List TFd)(vn vs:Int)(vt:List UInt8)(vl:List Val)(vf:List Fld):ak Tryz.prog aq 202 [(Typ.mk 3 m M s w e f).pv,(Val.mk 3 vn vs vt vl vf).pv] (.bool (bm (n+1) (.mk 3 m M s w e f) (.mk 3 vn vs vt vl vf))):=by
 have hi:=ln vn m M
 rw[show bm (n+1) (.mk 3 m M s w e f) (.mk 3 vn vs vt vl vf)=(inB vn m M&&decide (vs=s)) by simp[bm,qF,Typ.kind,Val.kind,ON,Val.num,Typ.min,Typ.max,Val.scale,Typ.scale];rfl]
 generalize inB vn m M=b at hi ⊢
 refine ak.intro gE.2 (by simp[gE]) ?_
 by_cases hs:vs=s
 ·rw[decide_eq_true hs,Bool.and_true]
  simp(disch:=try exact dI) only[gE,Typ.pv_mk,Val.pv_mk,hs,push_cast,seval]
  refine ab.pure hi rfl ?_
  exact qsZ
 ·rw[decide_eq_false hs,Bool.and_false]
  simp(disch:=try exact dI) only[gE,Typ.pv_mk,Val.pv_mk,hs,push_cast,seval]
theorem iC {α:Type}{p:α->Bool}{l:List α}{i:Nat}{x:α}(h:l[i]? = some x):(l.drop i).any p=(p x||(l.drop (i+1)).any p):=by
 have hi:=(List.getElem?_eq_some_iff.1 h).1
 have he:l[i]=x:=(List.getElem?_eq_some_iff.1 h).2
 rw[List.drop_eq_getElem_cons hi,he,List.any_cons]
theorem IS (n:Nat)(m M s:Int)(w:List (List UInt8))(e:List Typ)(f:List TFd)(vn vs:Int)(vt:List UInt8)(vl:List Val)(vf:List Fld)(hw:w.length<=1000000):ak Tryz.prog aq 202 [(Typ.mk 4 m M s w e f).pv,(Val.mk 4 vn vs vt vl vf).pv] (.bool (bm (n+1) (.mk 4 m M s w e f) (.mk 4 vn vs vt vl vf))):=by
 have hi:=ln vt.length m M
 rw[show bm (n+1) (.mk 4 m M s w e f) (.mk 4 vn vs vt vl vf)=if 0<w.length then w.any (fun x=>decide (x=vt)) else inB vt.length m M by simp[bm,qF,Typ.kind,Val.kind,Pg,Val.text,Typ.min,Typ.max,Typ.words];rfl]
 generalize inB vt.length m M=b at hi ⊢
 obtain⟨R,hR⟩:∃ R,R=if 0<w.length then w.any (fun x=>decide (x=vt)) else b:=⟨_,rfl⟩
 rw[<- hR]
 refine ak.intro gE.2 (by simp[gE]) ?_
 simp(disch:=try exact dI) only[gE,Typ.pv_mk,Val.pv_mk,push_cast,seval]
 refine ap ([]) (fun i:Nat=>[(5,.pv (.int .i64 (i:Int)))]) (fun _=>[]) (fun i=>i<=w.length/\R=(if 0<w.length then (w.drop i).any (fun x=>decide (x=vt)) else b)) (fun i=>w.length - i) (0) ?_;intro e0 σ0 n0 h0;simp(disch:=try exact dI) only[push_cast,seval] at h0;obtain⟨rfl,rfl,rfl⟩:=h0;refine⟨?_,?_,?_⟩
 ·exact qsZ
 ·exact⟨by omega,by simpa using hR⟩
 rintro i ⟨hle,hr⟩
 by_cases hlt:i<w.length
 ·have hltI:(i:Int)<(w.length:Int):=by omega
  obtain⟨x,hx⟩:∃ x,w[i]? = some x:=⟨_,List.getElem?_eq_getElem hlt⟩
  rw[iC hx] at hr
  by_cases hv:x=vt
  ·rw[if_pos (by omega),decide_eq_true hv,Bool.true_or] at hr
   subst hr
   simp(disch:=try exact dI) only[hx,Option.map_some,hv,push_cast,seval]
  ·rw[decide_eq_false hv,Bool.false_or] at hr
   simp(disch:=try exact dI) only[hx,Option.map_some,hv,push_cast,seval]
   exact⟨i+1,aK qsZ,⟨by omega,hr⟩,by omega⟩
 ·obtain rfl:i=w.length:=by omega
  rw[List.drop_length,List.any_nil] at hr
  by_cases h0:0<w.length
  ·have h0I:¬ (w.length:Int)=0:=by omega
   rw[if_pos h0] at hr
   subst hr
   simp(disch:=try exact dI) only[Int.lt_irrefl,h0I,push_cast,seval]
  ·have h0I:(w.length:Int)=0:=by omega
   rw[if_neg h0] at hr
   subst hr
   simp(disch:=try exact dI) only[Int.lt_irrefl,h0I,push_cast,seval]
   refine ab.pure hi rfl ?_
   exact qsZ
theorem IR (n:Nat)(m M s:Int)(w:List (List UInt8))(e:List Typ)(f:List TFd)(vn vs:Int)(vt:List UInt8)(vl:List Val)(vf:List Fld):ak Tryz.prog aq 202 [(Typ.mk 5 m M s w e f).pv,(Val.mk 5 vn vs vt vl vf).pv] (.bool (bm (n+1) (.mk 5 m M s w e f) (.mk 5 vn vs vt vl vf))):=by
 have hi:=ln vt.length m M
 rw[show bm (n+1) (.mk 5 m M s w e f) (.mk 5 vn vs vt vl vf)=inB vt.length m M by simp[bm,qF,Typ.kind,Val.kind,Val.text,Typ.min,Typ.max]]
 generalize inB vt.length m M=b at hi ⊢
 refine ak.intro gE.2 (by simp[gE]) ?_
 simp(disch:=try exact dI) only[gE,Typ.pv_mk,Val.pv_mk,push_cast,seval]
 refine ab.pure hi rfl ?_
 exact qsZ
theorem IU (n:Nat)(m M s:Int)(w:List (List UInt8))(e:List Typ)(f:List TFd)(vn vs:Int)(vt:List UInt8)(vl:List Val)(vf:List Fld):ak Tryz.prog aq 202 [(Typ.mk 1 m M s w e f).pv,(Val.mk 1 vn vs vt vl vf).pv] (.bool (bm (n+1) (.mk 1 m M s w e f) (.mk 1 vn vs vt vl vf))):=by
 rw[show bm (n+1) (.mk 1 m M s w e f) (.mk 1 vn vs vt vl vf)=true by simp[bm,qF,Typ.kind,Val.kind]]
 refine ak.intro gE.2 (by simp[gE]) ?_
 simp(disch:=try exact dI) only[gE,Typ.pv_mk,Val.pv_mk,push_cast,seval]
theorem IQ (n:Nat)(ih:wg n)(m M s:Int)(w:List (List UInt8))(e:List Typ)(f:List TFd)(vn vs:Int)(vt:List UInt8)(vl:List Val)(vf:List Fld)(hl:vl.length<=1000000000)(h:∀ y∈vl,∃ x r,e=x::r/\qE n x y):ak Tryz.prog aq 202 [(Typ.mk 8 m M s w e f).pv,(Val.mk 8 vn vs vt vl vf).pv] (.bool (bm (n+1) (.mk 8 m M s w e f) (.mk 8 vn vs vt vl vf))):=by
 have hi:=ln vl.length m M
 rw[show bm (n+1) (.mk 8 m M s w e f) (.mk 8 vn vs vt vl vf)=(inB vl.length m M&&!(vl.any (fun x=>!(yx (fun e=>bm n e x) e)))) by simp[bm,qF,Typ.kind,Val.kind,Val.lst,Typ.min,Typ.max,Typ.elem]]
 generalize inB vl.length m M=b at hi ⊢
 obtain⟨p,hp⟩:∃ p:Val->Bool,p=fun x=>!(yx (fun e=>bm n e x) e):=⟨_,rfl⟩
 rw[<- hp]
 obtain⟨R,hR⟩:∃ R,R=(b&&!(vl.any p)):=⟨_,rfl⟩
 rw[<- hR]
 refine ak.intro gE.2 (by simp[gE]) ?_
 simp(disch:=try exact dI) only[gE,Typ.pv_mk,Val.pv_mk,push_cast,seval]
 refine ap ([]) (fun i:Nat=>[(6,.pv (.int .i64 (i:Int)))]) (fun _=>[]) (fun i=>i<=vl.length/\R=(b&&!((vl.drop i).any p))) (fun i=>vl.length - i) (0) ?_;intro e0 σ0 n0 h0;simp(disch:=try exact dI) only[push_cast,seval] at h0;obtain⟨rfl,rfl,rfl⟩:=h0;refine⟨?_,?_,?_⟩
 ·exact qsZ
 ·exact⟨by omega,by simpa using hR⟩
 rintro i ⟨hle,hr⟩
 by_cases hlt:i<vl.length
 ·have hltI:(i:Int)<(vl.length:Int):=by omega
  obtain⟨y,hy⟩:∃ x,vl[i]? = some x:=⟨_,List.getElem?_eq_getElem hlt⟩
  obtain⟨x,r,rfl,hxy⟩:=h y (List.mem_of_getElem? hy)
  have hc:=ih x y hxy
  rw[iC hy,show p y=!(bm n x y) by rw[hp];rfl] at hr
  generalize bm n x y=q at hc hr
  have hel:¬ ((x::r).length:Int)=0:=by rw[List.length_cons];omega
  obtain⟨k',m',M',s',w',e',f'⟩:=x
  obtain⟨yk,yn,ys,yt,yl,yf⟩:=y
  simp only[Typ.pv_mk,Val.pv_mk] at hc
  cases q with
  | false=>
    simp only[Bool.not_false,Bool.true_or,Bool.not_true,Bool.and_false] at hr
    subst hr
    simp(disch:=try exact dI) only[hy,Option.map_some,Typ.pv_mk,Val.pv_mk,az,push_cast,seval]
    refine ab.pure hc rfl ?_
    exact qsZ
  | true=>
    simp only[Bool.not_true,Bool.false_or] at hr
    simp(disch:=try exact dI) only[hy,Option.map_some,Typ.pv_mk,Val.pv_mk,az,push_cast,seval]
    refine ab.pure hc rfl ?_
    refine zgZ ?_
    exact⟨i+1,aK qsZ,⟨by omega,hr⟩,by omega⟩
 ·obtain rfl:i=vl.length:=by omega
  rw[List.drop_length,List.any_nil,Bool.not_false,Bool.and_true] at hr
  subst hr
  simp(disch:=try exact dI) only[Int.lt_irrefl,push_cast,seval]
  refine ab.pure hi rfl ?_
  exact qsZ
theorem Bl {N:Nat}{k m M s:Int}{w:List (List UInt8)}{e:List Typ}{f:List TFd}(hs:cB N (.mk k m M s w e f)):f.length<=1000000000:=by
 cases N with
 | zero=>exact hs.elim
 | succ N=>simp only[cB] at hs;exact hs.2.2.1
theorem DW (n:Nat)(ih:wg n)(m M s:Int)(w:List (List UInt8))(e:List Typ)(f:List TFd)(vn vs:Int)(vt:List UInt8)(vl:List Val)(vf:List Fld)(hfl:f.length<=1000000000)
  (h:∀ g,bt (.mk 10 m M s w e f) vt=some g->∃ y r,vl=y::r/\qE n g.typ y):ak Tryz.prog aq 202 [(Typ.mk 10 m M s w e f).pv,(Val.mk 10 vn vs vt vl vf).pv] (.bool (bm (n+1) (.mk 10 m M s w e f) (.mk 10 vn vs vt vl vf))):=by
 have hc:=vq m M s w e f 10 vt hfl
 rw[show bm (n+1) (.mk 10 m M s w e f) (.mk 10 vn vs vt vl vf)=Lj (bm n) vl (bt (.mk 10 m M s w e f) vt) by simp[bm,qF,Typ.kind,Val.kind,Val.lst,Val.text]]
 rw[show bt (.mk 10 m M s w e f) vt=f.find? (named vt) from if_pos (.inr rfl)] at h ⊢
 simp only[Typ.pv_mk] at hc
 rcases ck (p:=named vt) f 0 with ⟨h1,h2⟩ | ⟨i,g,h1,h2,h3⟩
 ·rw[h1]
  rw[h2] at hc
  simp only[Lj]
  refine ak.intro gE.2 (by simp[gE]) ?_
  simp(disch:=try exact dI) only[gE,Typ.pv_mk,Val.pv_mk,push_cast,seval]
  refine ab.pure hc rfl ?_
  exact qsZ
 ·rw[h2] at h ⊢
  rw[h3,Nat.zero_add] at hc
  obtain⟨y,r,rfl,hy⟩:=h g rfl
  have hh:=ih _ _ hy
  obtain⟨n',nm',nd',⟨k',m',M',s',w',e',f'⟩,d'⟩:=g
  simp only[TFd.typ,Lj,oj] at hh ⊢
  generalize bm n (.mk k' m' M' s' w' e' f') y=b at hh ⊢
  obtain⟨yk,yn,ys,yt,yl,yf⟩:=y
  simp only[Typ.pv_mk,Val.pv_mk] at hh
  have hi0:(0:Int)<=(i:Int):=by omega
  refine ak.intro gE.2 (by simp[gE]) ?_
  simp(disch:=try exact dI) only[gE,Typ.pv_mk,Val.pv_mk,push_cast,seval]
  refine ab.pure hc rfl ?_
  simp(disch:=try exact dI) only[h1,Option.map_some,TFd.pv_mk,Typ.pv_mk,ag,az,Val.pv_mk,push_cast,seval]
  refine ab.pure hh rfl ?_
  exact qsZ
theorem NG (vn vs:Int)(vt:List UInt8)(vl:List Val)(vf:List Fld)(name:List UInt8)(hl:vf.length<=1000000000):ak Tryz.prog aq 290 [(Val.mk 9 vn vs vt vl vf).pv,.str name] (.int .i64 (eZ (cJ name) vf 0)):=by
 refine ak.intro TM.2 (by simp[TM]) ?_
 simp(disch:=try exact dI) only[TM,Val.pv_mk,push_cast,seval]
 refine ap ([]) (fun i:Nat=>[(5,.pv (.int .i64 (i:Int)))]) (fun _=>[]) (fun i=>i<=vf.length/\eZ (cJ name) vf 0=eZ (cJ name) (vf.drop i) i) (fun i=>vf.length - i) (0) ?_;intro e0 σ0 n0 h0;simp(disch:=try exact dI) only[push_cast,seval] at h0;obtain⟨rfl,rfl,rfl⟩:=h0;refine⟨?_,?_,?_⟩
 ·exact qsZ
 ·exact⟨by omega,by simp⟩
 rintro i ⟨hi,he⟩
 by_cases hlt:i<vf.length
 ·have hltI:(i:Int)<(vf.length:Int):=by omega
  obtain⟨x,hx⟩:∃ x,vf[i]? = some x:=⟨_,List.getElem?_eq_getElem hlt⟩
  have hhit:=fun h=>fq (p:=cJ name) hx h
  have hmiss:=fun h=>dG (p:=cJ name) hx h
  obtain⟨x2,⟨y1,y2,y3,y4,y5,y6⟩⟩:=x
  simp only[cJ,Fld.name] at hhit hmiss
  by_cases hn:x2=name
  ·rw[he,hhit (decide_eq_true hn)]
   simp(disch:=try exact dI) only[hx,Option.map_some,hn,Fld.pv_mk,Val.pv_mk,ag,push_cast,seval]
  ·simp(disch:=try exact dI) only[hx,Option.map_some,hn,Fld.pv_mk,Val.pv_mk,ag,push_cast,seval]
   exact⟨i+1,aK qsZ,⟨by omega,by rw[he];exact hmiss (decide_eq_false hn)⟩,by omega⟩
 ·obtain rfl:i=vf.length:=by omega
  rw[he,ft (by omega)]
  simp(disch:=try exact dI) only[Int.lt_irrefl,push_cast,seval]
theorem BN (n:Nat)(ih:wg n)(m M s:Int)(w:List (List UInt8))(e:List Typ)(f:List TFd)(vn vs:Int)(vt:List UInt8)(vl:List Val)(vf:List Fld)(hfl:f.length<=1000000000)(hvf:vf.length<=1000000)
  (h:∀ x∈vf,∀ g,bt (.mk 9 m M s w e f) x.name=some g->qE n g.typ x.value):ak Tryz.prog aq 253 [(Typ.mk 9 m M s w e f).pv,(Val.mk 9 vn vs vt vl vf).pv] (.bool ((vf.all fun x=>wS (bm n) x.value (bt (.mk 9 m M s w e f) x.name))&&!(f.any (jF (.mk 9 vn vs vt vl vf))))):=by
 have hfld:=fun nm=>vq m M s w e f 9 nm hfl
 have hfnd:=fun nm=>NG vn vs vt vl vf nm (by omega)
 have hT:∀ nm,bt (.mk 9 m M s w e f) nm=f.find? (named nm):=fun nm=>if_pos (.inl rfl)
 simp only[hT] at h ⊢
 clear hT
 obtain⟨p,hp⟩:∃ p:Fld->Bool,p=fun x=>wS (bm n) x.value (f.find? (named x.name)):=⟨_,rfl⟩
 rw[<- hp]
 obtain⟨L,hL⟩:∃ L:TFd->Bool,L=jF (.mk 9 vn vs vt vl vf):=⟨_,rfl⟩
 rw[<- hL]
 obtain⟨R,hR⟩:∃ R,R=(vf.all p&&!(f.any L)):=⟨_,rfl⟩
 rw[<- hR]
 simp only[Typ.pv_mk,Val.pv_mk] at hfld hfnd
 refine ak.intro TZ.2 (by simp[TZ]) ?_
 simp(disch:=try exact dI) only[TZ,Typ.pv_mk,Val.pv_mk,push_cast,seval]
 refine ap ([]) (fun i:Nat=>[(5,.pv (.int .i64 (i:Int)))]) (fun _=>[]) (fun i=>i<=vf.length/\R=((vf.drop i).all p&&!(f.any L))) (fun i=>vf.length - i) (0) ?_;intro e0 σ0 n0 h0;simp(disch:=try exact dI) only[push_cast,seval] at h0;obtain⟨rfl,rfl,rfl⟩:=h0;refine⟨?_,?_,?_⟩
 ·exact qsZ
 ·exact⟨by omega,by simpa using hR⟩
 rintro i ⟨hi,hr⟩
 by_cases hlt:i<vf.length
 ·have hltI:(i:Int)<(vf.length:Int):=by omega
  obtain⟨x,hx⟩:∃ x,vf[i]? = some x:=⟨_,List.getElem?_eq_getElem hlt⟩
  rw[v8 hx] at hr
  have hph:=h x (List.mem_of_getElem? hx)
  have hc:=hfld x.name
  rw[show p x=wS (bm n) x.value (f.find? (named x.name)) by rw[hp]] at hr
  obtain⟨xn,y⟩:=x
  simp only[Fld.name,Fld.value] at hph hc hr
  rcases ck (p:=named xn) f 0 with ⟨h1,h2⟩ | ⟨j,g,h1,h2,h3⟩
  ·rw[h2] at hc
   rw[h1] at hr
   simp only[wS,Bool.false_and] at hr
   subst hr
   obtain⟨yk,yn,ys,yt,yl,yf⟩:=y
   simp(disch:=try exact dI) only[hx,Option.map_some,Fld.pv_mk,Val.pv_mk,ag,push_cast,seval]
   refine ab.pure hc rfl ?_
   exact qsZ
  ·rw[h3,Nat.zero_add] at hc
   rw[h2] at hr
   have hh:=ih _ _ (hph g h2)
   have hj0:(0:Int)<=(j:Int):=by omega
   have hj1:¬ (j:Int)<0:=by omega
   simp only[wS] at hr
   obtain⟨n',nm',nd',⟨k',m',M',s',w',e',f'⟩,d'⟩:=g
   simp only[TFd.typ] at hh hr
   generalize bm n (.mk k' m' M' s' w' e' f') y=b at hh hr
   obtain⟨yk,yn,ys,yt,yl,yf⟩:=y
   simp only[Typ.pv_mk,Val.pv_mk] at hh
   cases b with
   | false=>
     simp only[Bool.false_and] at hr
     subst hr
     simp(disch:=try exact dI) only[hx,Option.map_some,Fld.pv_mk,Val.pv_mk,ag,push_cast,seval]
     refine ab.pure hc rfl ?_
     simp(disch:=try exact dI) only[hx,h1,Option.map_some,Fld.pv_mk,Val.pv_mk,TFd.pv_mk,Typ.pv_mk,ag,push_cast,seval]
     refine ab.pure hh rfl ?_
     exact qsZ
   | true=>
     rw[Bool.true_and] at hr
     simp(disch:=try exact dI) only[hx,Option.map_some,Fld.pv_mk,Val.pv_mk,ag,push_cast,seval]
     refine ab.pure hc rfl ?_
     simp(disch:=try exact dI) only[hx,h1,Option.map_some,Fld.pv_mk,Val.pv_mk,TFd.pv_mk,Typ.pv_mk,ag,push_cast,seval]
     refine ab.pure hh rfl ?_
     refine zgZ ?_
     exact⟨i+1,aK qsZ,⟨by omega,hr⟩,by omega⟩
 obtain rfl:i=vf.length:=by omega
 rw[List.drop_length,List.all_nil,Bool.true_and] at hr
 clear hR hi hlt h hp
 simp(disch:=try exact dI) only[Int.lt_irrefl,push_cast,seval]
 refine ap ([]) (fun i:Nat=>[(7,.pv (.int .i64 (i:Int)))]) (fun _=>[]) (fun i=>i<=f.length/\R=!((f.drop i).any L)) (fun i=>f.length - i) (0) ?_;intro e0 σ0 n0 h0;simp(disch:=try exact dI) only[push_cast,seval] at h0;obtain⟨rfl,rfl,rfl⟩:=h0;refine⟨?_,?_,?_⟩
 ·exact qsZ
 ·exact⟨by omega,by simpa using hr⟩
 clear hr
 rintro i ⟨hi,hr⟩
 by_cases hlt:i<f.length
 ·have hltI:(i:Int)<(f.length:Int):=by omega
  obtain⟨g,hg⟩:∃ g,f[i]? = some g:=⟨_,List.getElem?_eq_getElem hlt⟩
  rw[iC hg,show L g=jF (.mk 9 vn vs vt vl vf) g by rw[hL]] at hr
  obtain⟨n',nm',nd',⟨k',m',M',s',w',e',f'⟩,d'⟩:=g
  have hc:=hfnd nm'
  simp only[jF,Val.fields] at hr
  by_cases h2:nd'=2
  ·rw[decide_eq_true h2,Bool.not_true,Bool.and_false,Bool.false_or] at hr
   simp(disch:=try exact dI) only[hg,Option.map_some,TFd.pv_mk,Typ.pv_mk,ag,h2,push_cast,seval]
   exact⟨i+1,aK qsZ,⟨by omega,hr⟩,by omega⟩
  ·rw[decide_eq_false h2,Bool.not_false,Bool.and_true] at hr
   rcases ck (p:=cJ nm') vf 0 with ⟨h1,h3⟩ | ⟨j,x,h1,h3,h4⟩
   ·rw[h1,Option.isNone_none,Bool.true_or,Bool.not_true] at hr
    rw[h3] at hc
    subst hr
    simp(disch:=try exact dI) only[hg,Option.map_some,TFd.pv_mk,Typ.pv_mk,ag,h2,push_cast,seval]
    refine ab.pure hc rfl ?_
    exact qsZ
   ·rw[h3,Option.isNone_some,Bool.false_or] at hr
    rw[h4,Nat.zero_add] at hc
    have hj1:¬ (j:Int)<0:=by omega
    simp(disch:=try exact dI) only[hg,Option.map_some,TFd.pv_mk,Typ.pv_mk,ag,h2,push_cast,seval]
    refine ab.pure hc rfl ?_
    refine zgZ ?_
    exact⟨i+1,aK qsZ,⟨by omega,hr⟩,by omega⟩
 ·obtain rfl:i=f.length:=by omega
  rw[List.drop_length,List.any_nil,Bool.not_false] at hr
  subst hr
  simp(disch:=try exact dI) only[Int.lt_irrefl,push_cast,seval]
theorem KA:∀ n,wg n
 | 0=>fun _ _ h=>h.elim
 | n+1=>fun t v h=>by
   have ih:=KA n
   simp only[qE] at h
   obtain⟨⟨N,hs⟩,hkk,hw,hv,hl,hf,h⟩:=h
   by_cases hk:v.kind=t.kind
   ·have h:=h hk
    obtain⟨k,m,M,s,w,e,f⟩:=t
    obtain⟨vk,vn,vs,vt,vl,vf⟩:=v
    have hfl:=Bl hs
    simp only[Val.kind,Typ.kind,Typ.words,Val.lst,Val.fields,Val.text,Typ.elem,Val.scale,Typ.scale] at hk h hw hl hf hkk
    subst hk
    obtain⟨h2,h8,h10,h9⟩:=h
    by_cases h1:vk=2\/vk=6\/vk=7
    ·obtain rfl:=h2 h1
     exact yy n _ _ _ _ _ _ _ _ _ _ _ h1
    have hc:vk=1\/vk=3\/vk=4\/vk=5\/vk=8\/vk=9\/vk=10:=by omega
    clear hkk h1 h2
    rcases hc with rfl | rfl | rfl | rfl | rfl | rfl | rfl
    ·exact IU n _ _ _ _ _ _ _ _ _ _ _
    ·exact IT n _ _ _ _ _ _ _ _ _ _ _
    ·exact IS n _ _ _ _ _ _ _ _ _ _ _ hw
    ·exact IR n _ _ _ _ _ _ _ _ _ _ _
    ·exact IQ n ih _ _ _ _ _ _ _ _ _ _ _ hl (h8 rfl)
    ·have hrec:=BN n ih m M s w e f vn vs vt vl vf hfl hf (h9 rfl)
     rw[show bm (n+1) (.mk 9 m M s w e f) (.mk 9 vn vs vt vl vf)=((vf.all fun x=>wS (bm n) x.value (bt (.mk 9 m M s w e f) x.name))&&!(f.any (jF (.mk 9 vn vs vt vl vf)))) by simp[bm,qF,Typ.kind,Val.kind,Val.fields,Typ.fields]]
     generalize ((vf.all fun x=>wS (bm n) x.value (bt (.mk 9 m M s w e f) x.name))&&!(f.any (jF (.mk 9 vn vs vt vl vf))))=b at hrec ⊢
     simp only[Typ.pv_mk,Val.pv_mk] at hrec
     refine ak.intro gE.2 (by simp[gE]) ?_
     simp(disch:=try exact dI) only[gE,Typ.pv_mk,Val.pv_mk,push_cast,seval]
     refine ab.pure hrec rfl ?_
     exact qsZ
    ·exact DW n ih _ _ _ _ _ _ _ _ _ _ _ hfl (h10 rfl)
   ·exact DV n t v hk
end Go.Proofs.YtbaaokocnegdoaaGreatDoor
