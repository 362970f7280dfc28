/- A part of the proof for FixedwidthRepresentableCardSaid. -/
import Derived.Test.YtbojpfpliibfbaaGreatDoorReRU5
set_option maxRecDepth 100000
set_option linter.unusedVariables false
set_option linter.unusedSimpArgs false
-- many steps
namespace Go.Proofs.YtbojpfpliibfbaaGreatDoor
open Go Go.Ab
attribute [local irreducible] vc
set_option maxHeartbeats 4000000 in
theorem ug (n:Nat)(ih:pS n)(m M s:Int)(w:List (List UInt8))(e:List Typ)(f:List TFd)(vn vs:Int)(vt:List UInt8)(vl:List Val)(vf:List Fld)(hfl:f.length≤9000000000000)(hvf:vf.length≤9000000000000)
  (h:∀ x∈vf,∀ g,bi (.mk 9 m M s w e f) x.name=some g→mb n g.typ x.value):ag Tryz.prog aD 239 [(Typ.mk 9 m M s w e f).pv,(Val.mk 9 vn vs vt vl vf).pv] (.bool ((vf.all fun x=>qH (bg n) x.value (bi (.mk 9 m M s w e f) x.name))&&!(f.any (gB (.mk 9 vn vs vt vl vf))))):=by
 have hfld:=fun nm=>pp m M s w e f 9 nm hfl
 have hfnd:=fun nm=>FD vn vs vt vl vf nm (by omega)
 have hT:∀ nm,bi (.mk 9 m M s w e f) nm=f.find? (named nm):=fun nm=>if_pos (.inl rfl)
 simp only[hT] at h ⊢
 clear hT
 obtain⟨p,hp⟩:∃ p:Fld→Bool,p=fun x=>qH (bg n) x.value (f.find? (named x.name)):=⟨_,rfl⟩
 rw[← hp]
 obtain⟨L,hL⟩:∃ L:TFd→Bool,L=gB (.mk 9 vn vs vt vl vf):=⟨_,rfl⟩
 rw[← hL]
 obtain⟨R,hR⟩:∃ R,R=(vf.all p&&!(f.any L)):=⟨_,rfl⟩
 rw[← hR]
 simp only[Typ.pv_mk,Val.pv_mk] at hfld hfnd
 refine ag.intro GS (by simp[M3]) ?_
 simp(maxSteps:=9^7) (disch:=try exact dI) only[M3,Typ.pv_mk,Val.pv_mk,push_cast,seval]
 refine aw ([]) (fun i:Nat=>[(5,.pv (.int .i64 (i:Int)))]) (fun _=>[]) (fun i=>i≤vf.length∧R=((vf.drop i).all p&&!(f.any L))) (fun i=>vf.length - i) (0) ?_;intro e0 σ0 n0 h0;simp(maxSteps:=9^7) (disch:=try exact dI) only[push_cast,seval] at h0;obtain⟨rfl,rfl,rfl⟩:=h0;refine⟨?_,?_,?_⟩
 ·simp(maxSteps:=9^7) (disch:=try exact dI) only[push_cast,seval]
 ·exact⟨by omega,by simpa using hR⟩
 rintro i ⟨hi,hr⟩
 by_cases hlt:i<vf.length
 ·have hltI:(i:Int)<(vf.length:Int):=by omega
  obtain⟨x,hx⟩:∃ x,vf[i]? = some x:=⟨_,List.getElem?_eq_getElem hlt⟩
  rw[pQ hx] at hr
  have hph:=h x (List.mem_of_getElem? hx)
  have hc:=hfld x.name
  rw[show p x=qH (bg n) x.value (f.find? (named x.name)) by rw[hp]] at hr
  obtain⟨xn,y⟩:=x
  simp only[Fld.name,Fld.value] at hph hc hr
  rcases bB (p:=named xn) f 0 with ⟨h1,h2⟩ | ⟨j,g,h1,h2,h3⟩
  ·rw[h2] at hc
   rw[h1] at hr
   simp only[qH,Bool.false_and] at hr
   subst hr
   obtain⟨yk,yn,ys,yt,yl,yf⟩:=y
   simp(maxSteps:=9^7) (disch:=try exact dI) only[hx,Option.map_some,Fld.pv_mk,Val.pv_mk,ae,push_cast,seval]
   refine ab.pure hc rfl ?_
   simp(maxSteps:=9^7) (disch:=try exact dI) only[push_cast,seval]
  ·rw[h3,Nat.zero_add] at hc
   rw[h2] at hr
   have hh:=ih _ _ (hph g h2)
   have hj0:(0:Int)≤(j:Int):=by omega
   have hj1:¬ (j:Int)<0:=by omega
   simp only[qH] at hr
   obtain⟨n',nm',nd',⟨k',m',M',s',w',e',f'⟩,d'⟩:=g
   simp only[TFd.typ] at hh hr
   generalize bg n (.mk k' m' M' s' w' e' f') y=b at hh hr
   obtain⟨yk,yn,ys,yt,yl,yf⟩:=y
   simp only[Typ.pv_mk,Val.pv_mk] at hh
   cases b with
   | false=>
     simp only[Bool.false_and] at hr
     subst hr
     simp(maxSteps:=9^7) (disch:=try exact dI) only[hx,Option.map_some,Fld.pv_mk,Val.pv_mk,ae,push_cast,seval]
     refine ab.pure hc rfl ?_
     simp(maxSteps:=9^7) (disch:=try exact dI) only[hx,h1,Option.map_some,Fld.pv_mk,Val.pv_mk,TFd.pv_mk,Typ.pv_mk,ae,push_cast,seval]
     refine ab.pure hh rfl ?_
     simp(maxSteps:=9^7) (disch:=try exact dI) only[push_cast,seval]
   | true=>
     rw[Bool.true_and] at hr
     simp(maxSteps:=9^7) (disch:=try exact dI) only[hx,Option.map_some,Fld.pv_mk,Val.pv_mk,ae,push_cast,seval]
     refine ab.pure hc rfl ?_
     simp(maxSteps:=9^7) (disch:=try exact dI) only[hx,h1,Option.map_some,Fld.pv_mk,Val.pv_mk,TFd.pv_mk,Typ.pv_mk,ae,push_cast,seval]
     refine ab.pure hh rfl ?_
     simp(maxSteps:=9^7) (disch:=try exact dI) only[push_cast,seval]
     exact⟨i+1,aT qsZ,⟨by omega,hr⟩,by omega⟩
 obtain rfl:i=vf.length:=by omega
 rw[List.drop_length,List.all_nil,Bool.true_and] at hr
 clear hR hi hlt h hp
 simp(maxSteps:=9^7) (disch:=try exact dI) only[Int.lt_irrefl,push_cast,seval]
 refine aw ([]) (fun i:Nat=>[(7,.pv (.int .i64 (i:Int)))]) (fun _=>[]) (fun i=>i≤f.length∧R=!((f.drop i).any L)) (fun i=>f.length - i) (0) ?_;intro e0 σ0 n0 h0;simp(maxSteps:=9^7) (disch:=try exact dI) only[push_cast,seval] at h0;obtain⟨rfl,rfl,rfl⟩:=h0;refine⟨?_,?_,?_⟩
 ·simp(maxSteps:=9^7) (disch:=try exact dI) only[push_cast,seval]
 ·exact⟨by omega,by simpa using hr⟩
 clear hr
 rintro i ⟨hi,hr⟩
 by_cases hlt:i<f.length
 ·have hltI:(i:Int)<(f.length:Int):=by omega
  obtain⟨g,hg⟩:∃ g,f[i]? = some g:=⟨_,List.getElem?_eq_getElem hlt⟩
  rw[gZ hg,show L g=gB (.mk 9 vn vs vt vl vf) g by rw[hL]] at hr
  obtain⟨n',nm',nd',⟨k',m',M',s',w',e',f'⟩,d'⟩:=g
  have hc:=hfnd nm'
  simp only[gB,Val.fields] at hr
  by_cases h2:nd'=2
  ·rw[decide_eq_true h2,Bool.not_true,Bool.and_false,Bool.false_or] at hr
   simp(maxSteps:=9^7) (disch:=try exact dI) only[hg,Option.map_some,TFd.pv_mk,Typ.pv_mk,ae,h2,push_cast,seval]
   exact⟨i+1,aT qsZ,⟨by omega,hr⟩,by omega⟩
  ·rw[decide_eq_false h2,Bool.not_false,Bool.and_true] at hr
   rcases bB (p:=cG nm') vf 0 with ⟨h1,h3⟩ | ⟨j,x,h1,h3,h4⟩
   ·rw[h1,Option.isNone_none,Bool.true_or,Bool.not_true] at hr
    rw[h3] at hc
    subst hr
    simp(maxSteps:=9^7) (disch:=try exact dI) only[hg,Option.map_some,TFd.pv_mk,Typ.pv_mk,ae,h2,push_cast,seval]
    refine ab.pure hc rfl ?_
    simp(maxSteps:=9^7) (disch:=try exact dI) only[push_cast,seval]
   ·rw[h3,Option.isNone_some,Bool.false_or] at hr
    rw[h4,Nat.zero_add] at hc
    have hj1:¬ (j:Int)<0:=by omega
    simp(maxSteps:=9^7) (disch:=try exact dI) only[hg,Option.map_some,TFd.pv_mk,Typ.pv_mk,ae,h2,push_cast,seval]
    refine ab.pure hc rfl ?_
    simp(maxSteps:=9^7) (disch:=try exact dI) only[push_cast,seval]
    exact⟨i+1,aT qsZ,⟨by omega,hr⟩,by omega⟩
 ·obtain rfl:i=f.length:=by omega
  rw[List.drop_length,List.any_nil,Bool.not_false] at hr
  subst hr
  simp(maxSteps:=9^7) (disch:=try exact dI) only[Int.lt_irrefl,push_cast,seval]
theorem Dc:∀ n,pS n
 | 0=>fun _ _ h=>h.elim
 | n+1=>fun t v h=>by
   have ih:=Dc n
   simp only[mb] at h
   obtain⟨⟨N,hs⟩,hkk,hw,hv,hl,hf,h⟩:=h
   by_cases hk:v.kind=t.kind
   ·have h:=h hk
    obtain⟨k,m,M,s,w,e,f⟩:=t
    obtain⟨vk,vn,vs,vt,vl,vf⟩:=v
    have hfl:=tM hs
    simp only[Val.kind,Typ.kind,Typ.words,Val.lst,Val.fields,Val.text,Typ.elem,Val.scale,Typ.scale] at hk h hw hl hf hkk
    subst hk
    obtain⟨h2,h8,h10,h9⟩:=h
    by_cases h1:vk=2∨vk=6∨vk=7
    ·obtain rfl:=h2 h1
     exact rJ n _ _ _ _ _ _ _ _ _ _ _ h1
    have hc:vk=1∨vk=3∨vk=4∨vk=5∨vk=8∨vk=9∨vk=10:=by omega
    clear hkk h1 h2
    rcases hc with rfl | rfl | rfl | rfl | rfl | rfl | rfl
    ·exact BO n _ _ _ _ _ _ _ _ _ _ _
    ·exact BN n _ _ _ _ _ _ _ _ _ _ _
    ·exact BM n _ _ _ _ _ _ _ _ _ _ _ hw
    ·exact BL n _ _ _ _ _ _ _ _ _ _ _
    ·exact BK n ih _ _ _ _ _ _ _ _ _ _ _ hl (h8 rfl)
    ·have hrec:=ug n ih m M s w e f vn vs vt vl vf hfl hf (h9 rfl)
     rw[show bg (n+1) (.mk 9 m M s w e f) (.mk 9 vn vs vt vl vf)=((vf.all fun x=>qH (bg n) x.value (bi (.mk 9 m M s w e f) x.name))&&!(f.any (gB (.mk 9 vn vs vt vl vf)))) by simp[bg,mJ,Typ.kind,Val.kind,Val.fields,Typ.fields]]
     generalize ((vf.all fun x=>qH (bg n) x.value (bi (.mk 9 m M s w e f) x.name))&&!(f.any (gB (.mk 9 vn vs vt vl vf))))=b at hrec ⊢
     simp only[Typ.pv_mk,Val.pv_mk] at hrec
     refine ag.intro dw (by simp[jm]) ?_
     simp(maxSteps:=9^7) (disch:=try exact dI) only[jm,Typ.pv_mk,Val.pv_mk,push_cast,seval]
     refine ab.pure hrec rfl ?_
     simp(maxSteps:=9^7) (disch:=try exact dI) only[push_cast,seval]
    ·exact wn n ih _ _ _ _ _ _ _ _ _ _ _ hfl (h10 rfl)
   ·exact wm n t v hk
end Go.Proofs.YtbojpfpliibfbaaGreatDoor
-- many steps
namespace Go.Proofs.YtbojpfpliibfbaaGreatDoor
open Go Go.Ab
attribute [local irreducible] vc
def eU (k nd:Int)(d:List Val):Int:=if inB nd 1 3=false then 11 else if k=10∧¬ nd=1 then 11 else if nd=3∧d.length=0 then 4 else if 1<d.length then 3 else if ¬ nd=3∧0<d.length then 3 else 0
theorem mh (k:Int)(b:List TFd)(n:Int)(nm:List UInt8)(nd:Int)(t:Typ)(d:List Val):bz k b (.mk n nm nd t d)=if bM nm=false then 12 else if inB n 1 9999=false then 2 else if b.any (iV n nm)=true then 7 else eU k nd d:=rfl
theorem qo {k nd:Int}{d:List Val}(hb:inB nd 1 3=true)(hk:¬ (k=10∧¬ nd=1)) :
  eU k nd d=4∧nd=3∧d.length=0∨eU k nd d=3∧1<d.length∨eU k nd d=3∧¬ nd=3∧d.length=1∨eU k nd d=0∧nd=3∧d.length=1∨eU k nd d=0∧¬ nd=3∧d.length=0:=by
 unfold eU
 rw[hb,if_neg (show ¬ true=false by decide),if_neg hk]
 split
 ·omega
 ·split
  ·omega
  ·split<;>omega
set_option maxHeartbeats 4000000 in
theorem bI (k m M s:Int)(w:List (List UInt8))(e:List Typ)(f:List TFd):ag Tryz.prog aD 187 [(Typ.mk k m M s w e f).pv] (.int .i64 (if 64<f.length then 9 else az k [] f)):=by
 by_cases h64:64<f.length
 ·have h64I:(64:Int)<(f.length:Int):=by omega
  rw[if_pos h64]
  refine ag.intro ye (by simp[KW]) ?_
  simp(maxSteps:=9^7) (disch:=try exact dI) only[KW,Typ.pv_mk,h64I,push_cast,seval]
 have h64I:¬ (64:Int)<(f.length:Int):=by omega
 rw[if_neg h64]
 obtain⟨R,hR⟩:∃ R,R=az k [] f:=⟨_,rfl⟩
 rw[← hR]
 refine ag.intro ye (by simp[KW]) ?_
 simp(maxSteps:=9^7) (disch:=try exact dI) only[KW,Typ.pv_mk,h64I,push_cast,seval]
 refine aw ([]) (fun i:Nat=>[(3,.pv (.int .i64 (i:Int)))]) (fun _=>[]) (fun i=>i≤f.length∧R=az k (f.take i) (f.drop i)) (fun i=>f.length - i) (0) ?_;intro e0 σ0 n0 h0;simp(maxSteps:=9^7) (disch:=try exact dI) only[push_cast,seval] at h0;obtain⟨rfl,rfl,rfl⟩:=h0;refine⟨?_,?_,?_⟩
 ·simp(maxSteps:=9^7) (disch:=try exact dI) only[push_cast,seval]
 ·exact⟨by omega,by simpa using hR⟩
 rintro i ⟨hi,hr⟩
 by_cases hlt:i<f.length
 ·have hltI:(i:Int)<(f.length:Int):=by omega
  obtain⟨g,hg⟩:∃ g,f[i]? = some g:=⟨_,List.getElem?_eq_getElem hlt⟩
  rw[aO hg] at hr
  obtain⟨n,nm,nd,⟨k',m',M',s',w',e',f'⟩,d⟩:=g
  rw[mh] at hr
  have hn:=nD nm
  have hi1:=aU n 1 9999
  have hi2:=aU nd 1 3
  obtain⟨R',hR'⟩:∃ R',R'=az k (f.take (i+1)) (f.drop (i+1)):=⟨_,rfl⟩
  rw[← hR'] at hr
  simp(maxSteps:=9^7) (disch:=try exact dI) only[hg,Option.map_some,TFd.pv_mk,Typ.pv_mk,ae,push_cast,seval]
  refine ab.pure hn rfl ?_
  cases hb1:bM nm with
  | false=>
    rw[hb1,if_pos rfl,if_neg (by decide)] at hr
    subst hr
    simp(maxSteps:=9^7) (disch:=try exact dI) only[push_cast,seval]
  | true=>
  rw[hb1,if_neg (show ¬ true=false by decide)] at hr
  simp(maxSteps:=9^7) (disch:=try exact dI) only[push_cast,seval]
  refine ab.pure hi1 rfl ?_
  cases hb2:inB n 1 9999 with
  | false=>
    rw[hb2,if_pos rfl,if_neg (by decide)] at hr
    subst hr
    simp(maxSteps:=9^7) (disch:=try exact dI) only[push_cast,seval]
  | true=>
  rw[hb2,if_neg (show ¬ true=false by decide)] at hr
  simp(maxSteps:=9^7) (disch:=try exact dI) only[push_cast,seval]
  refine aw ([]) (fun j:Nat=>[(5,.pv (.int .i64 (j:Int)))]) (fun _=>[]) (fun j=>j≤i∧(f.take i).any (iV n nm)=((f.take i).drop j).any (iV n nm)) (fun j=>i - j) (0) ?_;intro e0 σ0 n0 h0;simp(maxSteps:=9^7) (disch:=try exact dI) only[push_cast,seval] at h0;obtain⟨rfl,rfl,rfl⟩:=h0;refine⟨?_,?_,?_⟩
  ·simp(maxSteps:=9^7) (disch:=try exact dI) only[push_cast,seval]
  ·exact⟨by omega,by simp⟩
  rintro j ⟨hj,hd⟩
  by_cases hjlt:j<i
  ·have hjI:(j:Int)<(i:Int):=by omega
   obtain⟨x,hx⟩:∃ x,f[j]? = some x:=⟨_,List.getElem?_eq_getElem (by omega)⟩
   have hx':(f.take i)[j]? = some x:=by rw[List.getElem?_take_of_lt hjlt];exact hx
   rw[gZ hx'] at hd
   obtain⟨xn,xnm,xnd,⟨a1,a2,a3,a4,a5,a6,a7⟩,xd⟩:=x
   by_cases q1:xnm=nm
   ·rw[show iV n nm (TFd.mk xn xnm xnd (Typ.mk a1 a2 a3 a4 a5 a6 a7) xd)=true by simp[iV,TFd.name,q1],Bool.true_or] at hd
    rw[hd,if_pos rfl,if_neg (by decide)] at hr
    subst hr
    simp(maxSteps:=9^7) (disch:=try exact dI) only[hx,Option.map_some,TFd.pv_mk,Typ.pv_mk,ae,q1,push_cast,seval]
   ·by_cases q2:xn=n
    ·rw[show iV n nm (TFd.mk xn xnm xnd (Typ.mk a1 a2 a3 a4 a5 a6 a7) xd)=true by simp[iV,TFd.number,q2],Bool.true_or] at hd
     rw[hd,if_pos rfl,if_neg (by decide)] at hr
     subst hr
     simp(maxSteps:=9^7) (disch:=try exact dI) only[hx,Option.map_some,TFd.pv_mk,Typ.pv_mk,ae,q1,q2,push_cast,seval]
    ·rw[show iV n nm (TFd.mk xn xnm xnd (Typ.mk a1 a2 a3 a4 a5 a6 a7) xd)=false by simp[iV,TFd.name,TFd.number,q1,q2],Bool.false_or] at hd
     simp(maxSteps:=9^7) (disch:=try exact dI) only[hx,Option.map_some,TFd.pv_mk,Typ.pv_mk,ae,q1,q2,push_cast,seval]
     exact⟨j+1,aT qsZ,⟨by omega,hd⟩,by omega⟩
  obtain rfl:j=i:=by omega
  rw[List.drop_of_length_le (by rw[List.length_take];omega),List.any_nil] at hd
  rw[hd,if_neg (show ¬ false=true by decide)] at hr
  clear hd hj hjlt
  simp(maxSteps:=9^7) (disch:=try exact dI) only[Int.lt_irrefl,push_cast,seval]
  refine ab.pure hi2 rfl ?_
  cases hb3:inB nd 1 3 with
  | false=>
    rw[show eU k nd d=11 by simp[eU,hb3],if_neg (by decide)] at hr
    subst hr
    simp(maxSteps:=9^7) (disch:=try exact dI) only[push_cast,seval]
  | true=>
  by_cases hk:k=10∧¬ nd=1
  ·rw[show eU k nd d=11 by simp[eU,hb3,hk],if_neg (by decide)] at hr
   subst hr
   obtain⟨hk1,hnd⟩:=hk
   simp(maxSteps:=9^7) (disch:=try exact dI) only[hk1,hnd,push_cast,seval]
  have hc5:=qo (d:=d) hb3 hk
  have hk':k=10∧nd=1∨¬ k=10:=by
   by_cases h:k=10
   ·exact .inl ⟨h,Decidable.byContradiction fun hh=>hk ⟨h,hh⟩⟩
   ·exact .inr h
  clear hk
  generalize eU k nd d=x at hc5 hr
  rcases hc5 with ⟨rfl,rfl,h0⟩ | ⟨rfl,h1⟩ | ⟨rfl,hnd,h0⟩ | ⟨rfl,rfl,h0⟩ | ⟨rfl,hnd,h0⟩
  ·rw[if_neg (by decide)] at hr
   subst hr
   rcases hk' with ⟨_,hh⟩ | hk
   ·exact absurd hh (by decide)
   ·have h0I:(d.length:Int)=0:=by omega
    simp(maxSteps:=9^7) (disch:=try exact dI) only[hk,h0I,push_cast,seval]
  ·rw[if_neg (by decide)] at hr
   subst hr
   have h0I:¬ (d.length:Int)=0:=by omega
   have h1I:(1:Int)<d.length:=by omega
   rcases hk' with ⟨hk,rfl⟩ | hk
   ·simp(maxSteps:=9^7) (disch:=try exact dI) only[hk,h0I,h1I,push_cast,seval]
   ·by_cases hnd:nd=3
    ·simp(maxSteps:=9^7) (disch:=try exact dI) only[hk,hnd,h0I,h1I,push_cast,seval]
    ·simp(maxSteps:=9^7) (disch:=try exact dI) only[hk,hnd,h0I,h1I,push_cast,seval]
  ·rw[if_neg (by decide)] at hr
   subst hr
   have h0I:(d.length:Int)=1:=by omega
   rcases hk' with ⟨hk,rfl⟩ | hk
   ·simp(maxSteps:=9^7) (disch:=try exact dI) only[hk,h0I,push_cast,seval]
   ·simp(maxSteps:=9^7) (disch:=try exact dI) only[hk,hnd,h0I,push_cast,seval]
  ·rw[if_pos rfl] at hr
   have h0I:(d.length:Int)=1:=by omega
   rcases hk' with ⟨_,hh⟩ | hk
   ·exact absurd hh (by decide)
   ·simp(maxSteps:=9^7) (disch:=try exact dI) only[hk,h0I,push_cast,seval]
    exact⟨j+1,aT qsZ,⟨by omega,hr.trans hR'⟩,by omega⟩
  ·rw[if_pos rfl] at hr
   have h0I:(d.length:Int)=0:=by omega
   rcases hk' with ⟨hk,rfl⟩ | hk
   ·simp(maxSteps:=9^7) (disch:=try exact dI) only[hk,h0I,push_cast,seval]
    exact⟨j+1,aT qsZ,⟨by omega,hr.trans (hk▸hR')⟩,by omega⟩
   ·simp(maxSteps:=9^7) (disch:=try exact dI) only[hk,hnd,h0I,push_cast,seval]
    exact⟨j+1,aT qsZ,⟨by omega,hr.trans hR'⟩,by omega⟩
 ·obtain rfl:i=f.length:=by omega
  rw[List.drop_length,az] at hr
  subst hr
  simp(maxSteps:=9^7) (disch:=try exact dI) only[Int.lt_irrefl,push_cast,seval]
end Go.Proofs.YtbojpfpliibfbaaGreatDoor
