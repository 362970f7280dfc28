/- A part. -/
import Derived.Test.YtbaaokocnegdoaaGreatDoorEnVSi
set_option linter.unusedVariables false
set_option linter.unusedSimpArgs false
set_option maxHeartbeats 16000000
set_option maxRecDepth 100000
open List renaming getElem?_eq_getElem->Vg,getElem?_eq_some_iff->Vh,drop_length->We,mem_of_getElem?->Vk
open Option renaming map_some->Vl
open Int renaming lt_irrefl->VH
open Bool renaming and_true->Ww,and_false->WB,false_and->Wc,true_and->Wb
namespace Go.Proofs.YtbaaokocnegdoaaGreatDoor
open Go Go.Ab
attribute [local irreducible] vc
section
variable (m M s:Int)(w:List (List UInt8))(e:List Typ)(f:List TFd)
theorem Bs (k:Int)(hk:1<=k/\k<=10):ae Tryz.prog aq 196 [(Typ.mk k m M s w e f).pv] (.bool (fy k (.mk k m M s w e f))):=by
 have hi:=mj k 2 8
 obtain⟨r,hr⟩:∃ r,r=fy k (.mk k m M s w e f):=⟨_,rfl⟩
 have h9:decide (9<=k)=(decide (k=9)||decide (k=10)):=by rw[Bool.eq_iff_iff];simp;omega
 rw[<- hr]
 simp only[fy,jD,h9] at hr
 rw[show (decide (2<=k)&&decide (k<=8))=inB k 2 8 from rfl] at hr
 generalize inB k 2 8=B at hi hr
 refine ae.intro Ue.2 (by simp[Ue]) ?_
 have h1:(B=false/\¬ m=0)\/(B=false/\m=0/\¬ M=0)\/(B=false/\m=0/\M=0)\/B=true:=by cases B<;>simp<;>omega
 have h2:(¬ k=3/\¬ s=0)\/(¬ k=3/\s=0)\/k=3:=by omega
 have h3:(¬ k=4/\(0:Int)<(w.length:Int)/\¬ w.length=0)\/(¬ k=4/\¬ (0:Int)<(w.length:Int)/\w.length=0)\/k=4:=by omega
 have h4:(¬ k=8/\(0:Int)<(e.length:Int)/\¬ e.length=0)\/(¬ k=8/\¬ (0:Int)<(e.length:Int)/\e.length=0)\/k=8:=by omega
 have h5:((¬ k=9/\¬ k=10)/\(0:Int)<(f.length:Int)/\¬ f.length=0)\/((¬ k=9/\¬ k=10)/\¬ (0:Int)<(f.length:Int)/\f.length=0)\/k=9\/k=10:=by omega
 rcases h1 with ⟨rfl,a⟩ | ⟨rfl,a,b⟩ | ⟨rfl,a,b⟩ | rfl
 all_goals first | (refine aQ (c:=true) hr ?_ ?_;(focus (simp[*];done));rintro rfl;have hend:=trivial;clear h2 h3 h4 h5) | rcases h2 with ⟨a2,b2⟩ | ⟨a2,b2⟩ | a2
 all_goals first | (have:=hend;skip) | (refine aQ (c:=true) hr ?_ ?_;(focus (simp[*];done));rintro rfl;have hend:=trivial;clear h3 h4 h5) | rcases h3 with ⟨a3,b3,c3⟩ | ⟨a3,b3,c3⟩ | a3
 all_goals try omega
 all_goals first | (have:=hend;skip) | (refine aQ (c:=true) hr ?_ ?_;(focus (simp[*];done));rintro rfl;have hend:=trivial;clear h4 h5) | rcases h4 with ⟨a4,b4,c4⟩ | ⟨a4,b4,c4⟩ | a4
 all_goals try omega
 all_goals first | (have:=hend;skip) | (refine aQ (c:=true) hr ?_ ?_;(focus (simp[*];done));rintro rfl;have hend:=trivial;clear h5) | rcases h5 with ⟨⟨a5,d5⟩,b5,c5⟩ | ⟨⟨a5,d5⟩,b5,c5⟩ | a5 | a5
 all_goals try omega
 all_goals first | (have:=hend;skip) | (refine aQ (c:=true) hr ?_ ?_;(focus (simp[*];done));rintro rfl) | (refine aQ (c:=false) hr ?_ ?_;(focus (simp[*];done));rintro rfl)
 all_goals clear hr
 all_goals first | (refine aQ (r:=k) (c:=3) rfl ?_ ?_;(focus omega);rintro rfl) | (refine aQ (r:=k) (c:=4) rfl ?_ ?_;(focus omega);rintro rfl) | (refine aQ (r:=k) (c:=8) rfl ?_ ?_;(focus omega);rintro rfl) | (refine aQ (r:=k) (c:=9) rfl ?_ ?_;(focus omega);rintro rfl) | (refine aQ (r:=k) (c:=10) rfl ?_ ?_;(focus omega);rintro rfl) | skip
 all_goals
  simp(disch:=try exact dI) only[Ue,Vd, *,push_cast,seval]
  refine ab.pure hi rfl ?_
  simp(disch:=try exact dI) only[*,push_cast,seval]
theorem DD (k:Int)(hk:2<=k/\k<=8):ae Tryz.prog aq 198 [.int .i64 k] (.tup [.int .i64 (loK k),.int .i64 (hiK k)]):=by
 have hc:k=2\/k=3\/k=4\/k=5\/k=6\/k=7\/k=8:=by omega
 clear hk
 rcases hc with rfl | rfl | rfl | rfl | rfl | rfl | rfl
 all_goals
  refine ae.intro OL.2 (by simp[OL]) ?_
  simp only[loK,hiK]
  simp(disch:=try exact dI) only[OL,push_cast,seval]
theorem Fo (k a b:Int):ae Tryz.prog aq 199 [(Typ.mk k m M s w e f).pv,.int .i64 a,.int .i64 b] (.bool (decide (¬ (M<m\/m<a\/b<M)))):=by
 refine ae.intro OK.2 (by simp[OK]) ?_
 by_cases h1:a<=m
 ·by_cases h2:M<=b
  ·by_cases h3:m<=M
   ·rw[decide_eq_true (show ¬ (M<m\/m<a\/b<M) by omega)]
    simp(disch:=try exact dI) only[OK,Vd,h1,h2,h3,push_cast,seval]
   ·rw[decide_eq_false (show ¬ ¬ (M<m\/m<a\/b<M) by omega)]
    simp(disch:=try exact dI) only[OK,Vd,h1,h2,h3,push_cast,seval]
  ·rw[decide_eq_false (show ¬ ¬ (M<m\/m<a\/b<M) by omega)]
   simp(disch:=try exact dI) only[OK,Vd,h1,h2,push_cast,seval]
 ·rw[decide_eq_false (show ¬ ¬ (M<m\/m<a\/b<M) by omega)]
  simp(disch:=try exact dI) only[OK,Vd,h1,push_cast,seval]
theorem wp (k:Int)(name:List UInt8)(hl:f.length<=1000000000):ae Tryz.prog aq 252 [(Typ.mk k m M s w e f).pv,.str name] (.int .i64 (fB (named name) f 0)):=by
 refine ae.intro T6.2 (by simp[T6]) ?_
 simp(disch:=try exact dI) only[T6,Vd,push_cast,seval]
 refine ap ([]) (fun i:Nat=>[(5,.pv (.int .i64 (i:Int)))]) (fun _=>[]) (fun i=>i<=f.length/\fB (named name) f 0=fB (named name) (f.drop i) i) (fun i=>f.length - i) (0) ?_;intro e0 σ0 n0 h0;simp(disch:=try exact dI) only[push_cast,seval] at h0;obtain⟨rfl,rfl,rfl⟩:=h0;refine⟨?_,?_,?_⟩
 ·exact qsZ
 ·exact⟨by omega,by simp⟩
 rintro i ⟨hi,he⟩
 by_cases hlt:i<f.length
 ·have hltI:(i:Int)<(f.length:Int):=by omega
  obtain⟨x,hx⟩:∃ x,f[i]? = some x:=⟨_,Vg hlt⟩
  have hhit:=fun h=>fN (p:=named name) hx h
  have hmiss:=fun h=>dR (p:=named name) hx h
  obtain⟨x1,x2,x3,⟨y1,y2,y3,y4,y5,y6,y7⟩,x5⟩:=x
  simp only[named,TFd.name] at hhit hmiss
  by_cases hn:x2=name
  ·rw[he,hhit (decide_eq_true hn)]
   simp(disch:=try exact dI) only[hx,Vl,hn,U7,Vd,ag,push_cast,seval]
  ·simp(disch:=try exact dI) only[hx,Vl,hn,U7,Vd,ag,push_cast,seval]
   exact⟨i+1,aI qsZ,⟨by omega,by rw[he];exact hmiss (decide_eq_false hn)⟩,by omega⟩
 ·obtain rfl:i=f.length:=by omega
  rw[he,fO (by omega)]
  simp(disch:=try exact dI) only[VH,push_cast,seval]
end
def w9 (n:Nat):Prop:=∀ t v,rr n t v->ae Tryz.prog aq 202 [t.pv,v.pv] (.bool (bp n t v))
theorem D4 (n:Nat)(t:Typ)(v:Val)(h:¬ v.kind=t.kind):ae Tryz.prog aq 202 [t.pv,v.pv] (.bool (bp (n+1) t v)):=by
 rw[show bp (n+1) t v=false by simp[bp,h]]
 obtain⟨k,m,M,s,w,e,f⟩:=t
 obtain⟨vk,vn,vs,vt,vl,vf⟩:=v
 simp only[Val.kind,Typ.kind] at h
 have h':¬ k=vk:=fun e=>h e.symm
 refine ae.intro ia.2 (by simp[ia]) ?_
 simp(disch:=try exact dI) only[ia,Vd,Vf,h',push_cast,seval]
theorem zm (n:Nat)(k m M s:Int)(w:List (List UInt8))(e:List Typ)(f:List TFd)(vn:Int)(vt:List UInt8)(vl:List Val)(vf:List Fld)(hk:k=2\/k=6\/k=7):ae Tryz.prog aq 202 [(Typ.mk k m M s w e f).pv,(Val.mk k vn s vt vl vf).pv] (.bool (bp (n+1) (.mk k m M s w e f) (.mk k vn s vt vl vf))):=by
 have hi:=mj vn m M
 rw[show bp (n+1) (.mk k m M s w e f) (.mk k vn s vt vl vf)=inB vn m M by
  have hk':k=2\/k=6\/k=7\/k=3:=by omega
  simp[bp,rt,Typ.kind,Val.kind,hk',Ow,Val.num,Typ.min,Typ.max,Val.scale,Typ.scale]]
 generalize inB vn m M=b at hi ⊢
 rcases hk with rfl | rfl | rfl
 all_goals
  refine ae.intro ia.2 (by simp[ia]) ?_
  simp(disch:=try exact dI) only[ia,Vd,Vf,push_cast,seval]
  refine ab.pure hi rfl ?_
  exact qsZ
theorem Iz (n:Nat)(m M s:Int)(w:List (List UInt8))(e:List Typ)(f:List TFd)(vn vs:Int)(vt:List UInt8)(vl:List Val)(vf:List Fld):ae Tryz.prog aq 202 [(Typ.mk 3 m M s w e f).pv,(Val.mk 3 vn vs vt vl vf).pv] (.bool (bp (n+1) (.mk 3 m M s w e f) (.mk 3 vn vs vt vl vf))):=by
 have hi:=mj vn m M
 rw[show bp (n+1) (.mk 3 m M s w e f) (.mk 3 vn vs vt vl vf)=(inB vn m M&&decide (vs=s)) by simp[bp,rt,Typ.kind,Val.kind,Ow,Val.num,Typ.min,Typ.max,Val.scale,Typ.scale];rfl]
 generalize inB vn m M=b at hi ⊢
 refine ae.intro ia.2 (by simp[ia]) ?_
 by_cases hs:vs=s
 ·rw[decide_eq_true hs,Ww]
  simp(disch:=try exact dI) only[ia,Vd,Vf,hs,push_cast,seval]
  refine ab.pure hi rfl ?_
  exact qsZ
 ·rw[decide_eq_false hs,WB]
  simp(disch:=try exact dI) only[ia,Vd,Vf,hs,push_cast,seval]
theorem ja {α:Type}{p:α->Bool}{l:List α}{i:Nat}{x:α}(h:l[i]? = some x):(l.drop i).any p=(p x||(l.drop (i+1)).any p):=by
 have hi:=(Vh.1 h).1
 have he:l[i]=x:=(Vh.1 h).2
 rw[List.drop_eq_getElem_cons hi,he,List.any_cons]
theorem Iy (n:Nat)(m M s:Int)(w:List (List UInt8))(e:List Typ)(f:List TFd)(vn vs:Int)(vt:List UInt8)(vl:List Val)(vf:List Fld)(hw:w.length<=1000000):ae Tryz.prog aq 202 [(Typ.mk 4 m M s w e f).pv,(Val.mk 4 vn vs vt vl vf).pv] (.bool (bp (n+1) (.mk 4 m M s w e f) (.mk 4 vn vs vt vl vf))):=by
 have hi:=mj vt.length m M
 rw[show bp (n+1) (.mk 4 m M s w e f) (.mk 4 vn vs vt vl vf)=if 0<w.length then w.any (fun x=>decide (x=vt)) else inB vt.length m M by simp[bp,rt,Typ.kind,Val.kind,O7,Val.text,Typ.min,Typ.max,Typ.words];rfl]
 generalize inB vt.length m M=b at hi ⊢
 obtain⟨R,hR⟩:∃ R,R=if 0<w.length then w.any (fun x=>decide (x=vt)) else b:=⟨_,rfl⟩
 rw[<- hR]
 refine ae.intro ia.2 (by simp[ia]) ?_
 simp(disch:=try exact dI) only[ia,Vd,Vf,push_cast,seval]
 refine ap ([]) (fun i:Nat=>[(5,.pv (.int .i64 (i:Int)))]) (fun _=>[]) (fun i=>i<=w.length/\R=(if 0<w.length then (w.drop i).any (fun x=>decide (x=vt)) else b)) (fun i=>w.length - i) (0) ?_;intro e0 σ0 n0 h0;simp(disch:=try exact dI) only[push_cast,seval] at h0;obtain⟨rfl,rfl,rfl⟩:=h0;refine⟨?_,?_,?_⟩
 ·exact qsZ
 ·exact⟨by omega,by simpa using hR⟩
 rintro i ⟨hle,hr⟩
 by_cases hlt:i<w.length
 ·have hltI:(i:Int)<(w.length:Int):=by omega
  obtain⟨x,hx⟩:∃ x,w[i]? = some x:=⟨_,Vg hlt⟩
  rw[ja hx] at hr
  by_cases hv:x=vt
  ·rw[if_pos (by omega),decide_eq_true hv,Bool.true_or] at hr
   subst hr
   simp(disch:=try exact dI) only[hx,Vl,hv,push_cast,seval]
  ·rw[decide_eq_false hv,Bool.false_or] at hr
   simp(disch:=try exact dI) only[hx,Vl,hv,push_cast,seval]
   exact⟨i+1,aI qsZ,⟨by omega,hr⟩,by omega⟩
 ·obtain rfl:i=w.length:=by omega
  rw[We,List.any_nil] at hr
  by_cases h0:0<w.length
  ·have h0I:¬ (w.length:Int)=0:=by omega
   rw[if_pos h0] at hr
   subst hr
   simp(disch:=try exact dI) only[VH,h0I,push_cast,seval]
  ·have h0I:(w.length:Int)=0:=by omega
   rw[if_neg h0] at hr
   subst hr
   simp(disch:=try exact dI) only[VH,h0I,push_cast,seval]
   refine ab.pure hi rfl ?_
   exact qsZ
theorem Ix (n:Nat)(m M s:Int)(w:List (List UInt8))(e:List Typ)(f:List TFd)(vn vs:Int)(vt:List UInt8)(vl:List Val)(vf:List Fld):ae Tryz.prog aq 202 [(Typ.mk 5 m M s w e f).pv,(Val.mk 5 vn vs vt vl vf).pv] (.bool (bp (n+1) (.mk 5 m M s w e f) (.mk 5 vn vs vt vl vf))):=by
 have hi:=mj vt.length m M
 rw[show bp (n+1) (.mk 5 m M s w e f) (.mk 5 vn vs vt vl vf)=inB vt.length m M by simp[bp,rt,Typ.kind,Val.kind,Val.text,Typ.min,Typ.max]]
 generalize inB vt.length m M=b at hi ⊢
 refine ae.intro ia.2 (by simp[ia]) ?_
 simp(disch:=try exact dI) only[ia,Vd,Vf,push_cast,seval]
 refine ab.pure hi rfl ?_
 exact qsZ
theorem IA (n:Nat)(m M s:Int)(w:List (List UInt8))(e:List Typ)(f:List TFd)(vn vs:Int)(vt:List UInt8)(vl:List Val)(vf:List Fld):ae Tryz.prog aq 202 [(Typ.mk 1 m M s w e f).pv,(Val.mk 1 vn vs vt vl vf).pv] (.bool (bp (n+1) (.mk 1 m M s w e f) (.mk 1 vn vs vt vl vf))):=by
 rw[show bp (n+1) (.mk 1 m M s w e f) (.mk 1 vn vs vt vl vf)=true by simp[bp,rt,Typ.kind,Val.kind]]
 refine ae.intro ia.2 (by simp[ia]) ?_
 simp(disch:=try exact dI) only[ia,Vd,Vf,push_cast,seval]
theorem Iw (n:Nat)(ih:w9 n)(m M s:Int)(w:List (List UInt8))(e:List Typ)(f:List TFd)(vn vs:Int)(vt:List UInt8)(vl:List Val)(vf:List Fld)(hl:vl.length<=1000000000)(h:∀ y∈vl,∃ x r,e=x::r/\rr n x y):ae Tryz.prog aq 202 [(Typ.mk 8 m M s w e f).pv,(Val.mk 8 vn vs vt vl vf).pv] (.bool (bp (n+1) (.mk 8 m M s w e f) (.mk 8 vn vs vt vl vf))):=by
 have hi:=mj vl.length m M
 rw[show bp (n+1) (.mk 8 m M s w e f) (.mk 8 vn vs vt vl vf)=(inB vl.length m M&&!(vl.any (fun x=>!(zj (fun e=>bp n e x) e)))) by simp[bp,rt,Typ.kind,Val.kind,Val.lst,Typ.min,Typ.max,Typ.elem]]
 generalize inB vl.length m M=b at hi ⊢
 obtain⟨p,hp⟩:∃ p:Val->Bool,p=fun x=>!(zj (fun e=>bp n e x) e):=⟨_,rfl⟩
 rw[<- hp]
 obtain⟨R,hR⟩:∃ R,R=(b&&!(vl.any p)):=⟨_,rfl⟩
 rw[<- hR]
 refine ae.intro ia.2 (by simp[ia]) ?_
 simp(disch:=try exact dI) only[ia,Vd,Vf,push_cast,seval]
 refine ap ([]) (fun i:Nat=>[(6,.pv (.int .i64 (i:Int)))]) (fun _=>[]) (fun i=>i<=vl.length/\R=(b&&!((vl.drop i).any p))) (fun i=>vl.length - i) (0) ?_;intro e0 σ0 n0 h0;simp(disch:=try exact dI) only[push_cast,seval] at h0;obtain⟨rfl,rfl,rfl⟩:=h0;refine⟨?_,?_,?_⟩
 ·exact qsZ
 ·exact⟨by omega,by simpa using hR⟩
 rintro i ⟨hle,hr⟩
 by_cases hlt:i<vl.length
 ·have hltI:(i:Int)<(vl.length:Int):=by omega
  obtain⟨y,hy⟩:∃ x,vl[i]? = some x:=⟨_,Vg hlt⟩
  obtain⟨x,r,rfl,hxy⟩:=h y (Vk hy)
  have hc:=ih x y hxy
  rw[ja hy,show p y=!(bp n x y) by rw[hp];rfl] at hr
  generalize bp n x y=q at hc hr
  have hel:¬ ((x::r).length:Int)=0:=by rw[List.length_cons];omega
  obtain⟨k',m',M',s',w',e',f'⟩:=x
  obtain⟨yk,yn,ys,yt,yl,yf⟩:=y
  simp only[Vd,Vf] at hc
  cases q with
  | false=>
    simp only[Bool.not_false,Bool.true_or,Bool.not_true,WB] at hr
    subst hr
    simp(disch:=try exact dI) only[hy,Vl,Vd,Vf,az,push_cast,seval]
    refine ab.pure hc rfl ?_
    exact qsZ
  | true=>
    simp only[Bool.not_true,Bool.false_or] at hr
    simp(disch:=try exact dI) only[hy,Vl,Vd,Vf,az,push_cast,seval]
    refine ab.pure hc rfl ?_
    refine zgZ ?_
    exact⟨i+1,aI qsZ,⟨by omega,hr⟩,by omega⟩
 ·obtain rfl:i=vl.length:=by omega
  rw[We,List.any_nil,Bool.not_false,Ww] at hr
  subst hr
  simp(disch:=try exact dI) only[VH,push_cast,seval]
  refine ab.pure hi rfl ?_
  exact qsZ
theorem BN {N:Nat}{k m M s:Int}{w:List (List UInt8)}{e:List Typ}{f:List TFd}(hs:cP N (.mk k m M s w e f)):f.length<=1000000000:=by
 cases N with
 | zero=>exact hs.elim
 | succ N=>simp only[cP] at hs;exact hs.2.2.1
theorem D5 (n:Nat)(ih:w9 n)(m M s:Int)(w:List (List UInt8))(e:List Typ)(f:List TFd)(vn vs:Int)(vt:List UInt8)(vl:List Val)(vf:List Fld)(hfl:f.length<=1000000000)
  (h:∀ g,bu (.mk 10 m M s w e f) vt=some g->∃ y r,vl=y::r/\rr n g.typ y):ae Tryz.prog aq 202 [(Typ.mk 10 m M s w e f).pv,(Val.mk 10 vn vs vt vl vf).pv] (.bool (bp (n+1) (.mk 10 m M s w e f) (.mk 10 vn vs vt vl vf))):=by
 have hc:=wp m M s w e f 10 vt hfl
 rw[show bp (n+1) (.mk 10 m M s w e f) (.mk 10 vn vs vt vl vf)=K8 (bp n) vl (bu (.mk 10 m M s w e f) vt) by simp[bp,rt,Typ.kind,Val.kind,Val.lst,Val.text]]
 rw[show bu (.mk 10 m M s w e f) vt=f.find? (named vt) from if_pos (.inr rfl)] at h ⊢
 simp only[Vd] at hc
 rcases bZ (p:=named vt) f 0 with ⟨h1,h2⟩ | ⟨i,g,h1,h2,h3⟩
 ·rw[h1]
  rw[h2] at hc
  simp only[K8]
  refine ae.intro ia.2 (by simp[ia]) ?_
  simp(disch:=try exact dI) only[ia,Vd,Vf,push_cast,seval]
  refine ab.pure hc rfl ?_
  exact qsZ
 ·rw[h2] at h ⊢
  rw[h3,Nat.zero_add] at hc
  obtain⟨y,r,rfl,hy⟩:=h g rfl
  have hh:=ih _ _ hy
  obtain⟨n',nm',nd',⟨k',m',M',s',w',e',f'⟩,d'⟩:=g
  simp only[TFd.typ,K8,pg] at hh ⊢
  generalize bp n (.mk k' m' M' s' w' e' f') y=b at hh ⊢
  obtain⟨yk,yn,ys,yt,yl,yf⟩:=y
  simp only[Vd,Vf] at hh
  have hi0:(0:Int)<=(i:Int):=by omega
  refine ae.intro ia.2 (by simp[ia]) ?_
  simp(disch:=try exact dI) only[ia,Vd,Vf,push_cast,seval]
  refine ab.pure hc rfl ?_
  simp(disch:=try exact dI) only[h1,Vl,U7,Vd,ag,az,Vf,push_cast,seval]
  refine ab.pure hh rfl ?_
  exact qsZ
theorem Nh (vn vs:Int)(vt:List UInt8)(vl:List Val)(vf:List Fld)(name:List UInt8)(hl:vf.length<=1000000000):ae Tryz.prog aq 290 [(Val.mk 9 vn vs vt vl vf).pv,.str name] (.int .i64 (fB (aN name) vf 0)):=by
 refine ae.intro TR.2 (by simp[TR]) ?_
 simp(disch:=try exact dI) only[TR,Vf,push_cast,seval]
 refine ap ([]) (fun i:Nat=>[(5,.pv (.int .i64 (i:Int)))]) (fun _=>[]) (fun i=>i<=vf.length/\fB (aN name) vf 0=fB (aN name) (vf.drop i) i) (fun i=>vf.length - i) (0) ?_;intro e0 σ0 n0 h0;simp(disch:=try exact dI) only[push_cast,seval] at h0;obtain⟨rfl,rfl,rfl⟩:=h0;refine⟨?_,?_,?_⟩
 ·exact qsZ
 ·exact⟨by omega,by simp⟩
 rintro i ⟨hi,he⟩
 by_cases hlt:i<vf.length
 ·have hltI:(i:Int)<(vf.length:Int):=by omega
  obtain⟨x,hx⟩:∃ x,vf[i]? = some x:=⟨_,Vg hlt⟩
  have hhit:=fun h=>fN (p:=aN name) hx h
  have hmiss:=fun h=>dR (p:=aN name) hx h
  obtain⟨x2,⟨y1,y2,y3,y4,y5,y6⟩⟩:=x
  simp only[aN,Fld.name] at hhit hmiss
  by_cases hn:x2=name
  ·rw[he,hhit (decide_eq_true hn)]
   simp(disch:=try exact dI) only[hx,Vl,hn,U3,Vf,ag,push_cast,seval]
  ·simp(disch:=try exact dI) only[hx,Vl,hn,U3,Vf,ag,push_cast,seval]
   exact⟨i+1,aI qsZ,⟨by omega,by rw[he];exact hmiss (decide_eq_false hn)⟩,by omega⟩
 ·obtain rfl:i=vf.length:=by omega
  rw[he,fO (by omega)]
  simp(disch:=try exact dI) only[VH,push_cast,seval]
theorem Cf (n:Nat)(ih:w9 n)(m M s:Int)(w:List (List UInt8))(e:List Typ)(f:List TFd)(vn vs:Int)(vt:List UInt8)(vl:List Val)(vf:List Fld)(hfl:f.length<=1000000000)(hvf:vf.length<=1000000)
  (h:∀ x∈vf,∀ g,bu (.mk 9 m M s w e f) x.name=some g->rr n g.typ x.value):ae Tryz.prog aq 253 [(Typ.mk 9 m M s w e f).pv,(Val.mk 9 vn vs vt vl vf).pv] (.bool ((vf.all fun x=>xV (bp n) x.value (bu (.mk 9 m M s w e f) x.name))&&!(f.any (ke (.mk 9 vn vs vt vl vf))))):=by
 have hfld:=fun nm=>wp m M s w e f 9 nm hfl
 have hfnd:=fun nm=>Nh vn vs vt vl vf nm (by omega)
 have hT:∀ nm,bu (.mk 9 m M s w e f) nm=f.find? (named nm):=fun nm=>if_pos (.inl rfl)
 simp only[hT] at h ⊢
 clear hT
 obtain⟨p,hp⟩:∃ p:Fld->Bool,p=fun x=>xV (bp n) x.value (f.find? (named x.name)):=⟨_,rfl⟩
 rw[<- hp]
 obtain⟨L,hL⟩:∃ L:TFd->Bool,L=ke (.mk 9 vn vs vt vl vf):=⟨_,rfl⟩
 rw[<- hL]
 obtain⟨R,hR⟩:∃ R,R=(vf.all p&&!(f.any L)):=⟨_,rfl⟩
 rw[<- hR]
 simp only[Vd,Vf] at hfld hfnd
 refine ae.intro T5.2 (by simp[T5]) ?_
 simp(disch:=try exact dI) only[T5,Vd,Vf,push_cast,seval]
 refine ap ([]) (fun i:Nat=>[(5,.pv (.int .i64 (i:Int)))]) (fun _=>[]) (fun i=>i<=vf.length/\R=((vf.drop i).all p&&!(f.any L))) (fun i=>vf.length - i) (0) ?_;intro e0 σ0 n0 h0;simp(disch:=try exact dI) only[push_cast,seval] at h0;obtain⟨rfl,rfl,rfl⟩:=h0;refine⟨?_,?_,?_⟩
 ·exact qsZ
 ·exact⟨by omega,by simpa using hR⟩
 rintro i ⟨hi,hr⟩
 by_cases hlt:i<vf.length
 ·have hltI:(i:Int)<(vf.length:Int):=by omega
  obtain⟨x,hx⟩:∃ x,vf[i]? = some x:=⟨_,Vg hlt⟩
  rw[wW hx] at hr
  have hph:=h x (Vk hx)
  have hc:=hfld x.name
  rw[show p x=xV (bp n) x.value (f.find? (named x.name)) by rw[hp]] at hr
  obtain⟨xn,y⟩:=x
  simp only[Fld.name,Fld.value] at hph hc hr
  rcases bZ (p:=named xn) f 0 with ⟨h1,h2⟩ | ⟨j,g,h1,h2,h3⟩
  ·rw[h2] at hc
   rw[h1] at hr
   simp only[xV,Wc] at hr
   subst hr
   obtain⟨yk,yn,ys,yt,yl,yf⟩:=y
   simp(disch:=try exact dI) only[hx,Vl,U3,Vf,ag,push_cast,seval]
   refine ab.pure hc rfl ?_
   exact qsZ
  ·rw[h3,Nat.zero_add] at hc
   rw[h2] at hr
   have hh:=ih _ _ (hph g h2)
   have hj0:(0:Int)<=(j:Int):=by omega
   have hj1:¬ (j:Int)<0:=by omega
   simp only[xV] at hr
   obtain⟨n',nm',nd',⟨k',m',M',s',w',e',f'⟩,d'⟩:=g
   simp only[TFd.typ] at hh hr
   generalize bp n (.mk k' m' M' s' w' e' f') y=b at hh hr
   obtain⟨yk,yn,ys,yt,yl,yf⟩:=y
   simp only[Vd,Vf] at hh
   cases b with
   | false=>
     simp only[Wc] at hr
     subst hr
     simp(disch:=try exact dI) only[hx,Vl,U3,Vf,ag,push_cast,seval]
     refine ab.pure hc rfl ?_
     simp(disch:=try exact dI) only[hx,h1,Vl,U3,Vf,U7,Vd,ag,push_cast,seval]
     refine ab.pure hh rfl ?_
     exact qsZ
   | true=>
     rw[Wb] at hr
     simp(disch:=try exact dI) only[hx,Vl,U3,Vf,ag,push_cast,seval]
     refine ab.pure hc rfl ?_
     simp(disch:=try exact dI) only[hx,h1,Vl,U3,Vf,U7,Vd,ag,push_cast,seval]
     refine ab.pure hh rfl ?_
     refine zgZ ?_
     exact⟨i+1,aI qsZ,⟨by omega,hr⟩,by omega⟩
 obtain rfl:i=vf.length:=by omega
 rw[We,List.all_nil,Wb] at hr
 clear hR hi hlt h hp
 simp(disch:=try exact dI) only[VH,push_cast,seval]
 refine ap ([]) (fun i:Nat=>[(7,.pv (.int .i64 (i:Int)))]) (fun _=>[]) (fun i=>i<=f.length/\R=!((f.drop i).any L)) (fun i=>f.length - i) (0) ?_;intro e0 σ0 n0 h0;simp(disch:=try exact dI) only[push_cast,seval] at h0;obtain⟨rfl,rfl,rfl⟩:=h0;refine⟨?_,?_,?_⟩
 ·exact qsZ
 ·exact⟨by omega,by simpa using hr⟩
 clear hr
 rintro i ⟨hi,hr⟩
 by_cases hlt:i<f.length
 ·have hltI:(i:Int)<(f.length:Int):=by omega
  obtain⟨g,hg⟩:∃ g,f[i]? = some g:=⟨_,Vg hlt⟩
  rw[ja hg,show L g=ke (.mk 9 vn vs vt vl vf) g by rw[hL]] at hr
  obtain⟨n',nm',nd',⟨k',m',M',s',w',e',f'⟩,d'⟩:=g
  have hc:=hfnd nm'
  simp only[ke,Val.fields] at hr
  by_cases h2:nd'=2
  ·rw[decide_eq_true h2,Bool.not_true,WB,Bool.false_or] at hr
   simp(disch:=try exact dI) only[hg,Vl,U7,Vd,ag,h2,push_cast,seval]
   exact⟨i+1,aI qsZ,⟨by omega,hr⟩,by omega⟩
  ·rw[decide_eq_false h2,Bool.not_false,Ww] at hr
   rcases bZ (p:=aN nm') vf 0 with ⟨h1,h3⟩ | ⟨j,x,h1,h3,h4⟩
   ·rw[h1,Option.isNone_none,Bool.true_or,Bool.not_true] at hr
    rw[h3] at hc
    subst hr
    simp(disch:=try exact dI) only[hg,Vl,U7,Vd,ag,h2,push_cast,seval]
    refine ab.pure hc rfl ?_
    exact qsZ
   ·rw[h3,Option.isNone_some,Bool.false_or] at hr
    rw[h4,Nat.zero_add] at hc
    have hj1:¬ (j:Int)<0:=by omega
    simp(disch:=try exact dI) only[hg,Vl,U7,Vd,ag,h2,push_cast,seval]
    refine ab.pure hc rfl ?_
    refine zgZ ?_
    exact⟨i+1,aI qsZ,⟨by omega,hr⟩,by omega⟩
 ·obtain rfl:i=f.length:=by omega
  rw[We,List.any_nil,Bool.not_false] at hr
  subst hr
  simp(disch:=try exact dI) only[VH,push_cast,seval]
theorem Kn:∀ n,w9 n
 | 0=>fun _ _ h=>h.elim
 | n+1=>fun t v h=>by
   have ih:=Kn n
   simp only[rr] at h
   obtain⟨⟨N,hs⟩,hkk,hw,hv,hl,hf,h⟩:=h
   by_cases hk:v.kind=t.kind
   ·have h:=h hk
    obtain⟨k,m,M,s,w,e,f⟩:=t
    obtain⟨vk,vn,vs,vt,vl,vf⟩:=v
    have hfl:=BN hs
    simp only[Val.kind,Typ.kind,Typ.words,Val.lst,Val.fields,Val.text,Typ.elem,Val.scale,Typ.scale] at hk h hw hl hf hkk
    subst hk
    obtain⟨h2,h8,h10,h9⟩:=h
    by_cases h1:vk=2\/vk=6\/vk=7
    ·obtain rfl:=h2 h1
     exact zm n _ _ _ _ _ _ _ _ _ _ _ h1
    have hc:vk=1\/vk=3\/vk=4\/vk=5\/vk=8\/vk=9\/vk=10:=by omega
    clear hkk h1 h2
    rcases hc with rfl | rfl | rfl | rfl | rfl | rfl | rfl
    ·exact IA n _ _ _ _ _ _ _ _ _ _ _
    ·exact Iz n _ _ _ _ _ _ _ _ _ _ _
    ·exact Iy n _ _ _ _ _ _ _ _ _ _ _ hw
    ·exact Ix n _ _ _ _ _ _ _ _ _ _ _
    ·exact Iw n ih _ _ _ _ _ _ _ _ _ _ _ hl (h8 rfl)
    ·have hrec:=Cf n ih m M s w e f vn vs vt vl vf hfl hf (h9 rfl)
     rw[show bp (n+1) (.mk 9 m M s w e f) (.mk 9 vn vs vt vl vf)=((vf.all fun x=>xV (bp n) x.value (bu (.mk 9 m M s w e f) x.name))&&!(f.any (ke (.mk 9 vn vs vt vl vf)))) by simp[bp,rt,Typ.kind,Val.kind,Val.fields,Typ.fields]]
     generalize ((vf.all fun x=>xV (bp n) x.value (bu (.mk 9 m M s w e f) x.name))&&!(f.any (ke (.mk 9 vn vs vt vl vf))))=b at hrec ⊢
     simp only[Vd,Vf] at hrec
     refine ae.intro ia.2 (by simp[ia]) ?_
     simp(disch:=try exact dI) only[ia,Vd,Vf,push_cast,seval]
     refine ab.pure hrec rfl ?_
     exact qsZ
    ·exact D5 n ih _ _ _ _ _ _ _ _ _ _ _ hfl (h10 rfl)
   ·exact D4 n t v hk
