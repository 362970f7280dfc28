/- A part of the proof for LiteralTextsCardSaid. -/
import Derived.Test.YtamoeblcphjbaaaGreatDoorTxLR5
import Derived.Test.YtamoeblcphjbaaaGreatDoorTxLC17
set_option maxRecDepth 100000
set_option linter.unusedVariables false
set_option linter.unusedSimpArgs false
-- many steps
namespace Go.Proofs.YtamoeblcphjbaaaGreatDoor
open Go Go.Ab
attribute [local irreducible] vc
def bf (i:Nat)(q:Int×Val):Int:=
 if 4096≤i then 9 else if 8<q.1 then 23 else if bt q.2=true then 19 else if q.2.kind<1∨10<q.2.kind then 11 else if az q.2=false then 3 else aS q.2
section
variable {i:Nat}{q:Int×Val}
theorem Cs (c1:4096≤i):bf i q=9:=if_pos c1
theorem sB (c1:¬ 4096≤i)(c2:8<q.1):bf i q=23:=by unfold bf;rw[if_neg c1,if_pos c2]
theorem sA (c1:¬ 4096≤i)(c2:¬ 8<q.1)(c3:bt q.2=true):bf i q=19:=by unfold bf;rw[if_neg c1,if_neg c2,if_pos c3]
theorem sy (c1:¬ 4096≤i)(c2:¬ 8<q.1)(c3:bt q.2=false)(c4:q.2.kind<1∨10<q.2.kind):bf i q=11:=by unfold bf;rw[if_neg c1,if_neg c2,if_neg (by rw[c3];simp),if_pos c4]
theorem sx (c1:¬ 4096≤i)(c2:¬ 8<q.1)(c3:bt q.2=false)(c4:¬ (q.2.kind<1∨10<q.2.kind))(c5:az q.2=false):bf i q=3:=by unfold bf;rw[if_neg c1,if_neg c2,if_neg (by rw[c3];simp),if_neg c4,if_pos c5]
theorem sw (c1:¬ 4096≤i)(c2:¬ 8<q.1)(c3:bt q.2=false)(c4:¬ (q.2.kind<1∨10<q.2.kind))(c5:az q.2=true):bf i q=aS q.2:=by unfold bf;rw[if_neg c1,if_neg c2,if_neg (by rw[c3];simp),if_neg c4,if_neg (by rw[c5];simp)]
end
def i1:Nat→List (Int×Val)→Int
 | _,[]=>0
 | i,q::r=>if bf i q=0 then i1 (i+1) r else bf i q
def CO (k:Int):Nat:=if k=1 then 69 else if k=2 then 71 else if k=3 then 72 else if k=4 then 74 else if k=5 then 77 else if k=6 then 78 else if k=7 then 79 else if k=8 then 80 else if k=9 then 81 else 83
theorem CN (v:Val)(h:1≤v.kind∧v.kind≤10):aw Tryz.prog aD (CO v.kind) [v.pv] (.int .i64 (aS v)):=by
 have hc:v.kind=1∨v.kind=2∨v.kind=3∨v.kind=4∨v.kind=5∨v.kind=6∨v.kind=7∨v.kind=8∨v.kind=9∨v.kind=10:=by omega
 rcases hc with h | h | h | h | h | h | h | h | h | h<;>rw[h]
 ·exact CY v h
 ·exact CX v h
 ·exact CW v h
 ·exact CV v h
 ·exact CU v h
 ·exact CT v h
 ·exact CS v h
 ·exact CR v h
 ·exact CQ v h
 ·exact CP v h
theorem fR {n sz r o:Nat}{k:IntKind}{i:Int}(h0:0≤i)(h1:i.toNat<n):eL n sz (.ptr r o) (.pv (.int k i))=some (.ptr r (o+i.toNat*sz)):=if_pos ⟨h0,h1⟩
theorem Cm (x:Val)(h:1≤x.kind∧x.kind≤10):aw Tryz.prog aD 40 [x.pv] (.bool (az x)):=Ck x h
theorem El {xs:List (Int×Val)}{i:Nat}{q:Int×Val}(h:xs[i]? = some q):i1 i (xs.drop i)=if bf i q=0 then i1 (i+1) (xs.drop (i+1)) else bf i q:=by
 have hi:i<xs.length:=(List.getElem?_eq_some_iff.1 h).1
 have he:xs[i]=q:=(List.getElem?_eq_some_iff.1 h).2
 rw[List.drop_eq_getElem_cons hi,he,i1]
set_option maxHeartbeats 4000000 in
theorem fB (n:Nat)(v:Val)(hd:fl n v)(hv:v.ok):aw Tryz.prog aD 15 [v.pv] (.int .i64 (i1 0 (aX n 1 v))):=by
 have hseq:=jN n v hd hv
 have h243:=lW v
 have h242:=yk
 generalize hxs:aX n 1 v=xs at *
 obtain⟨R,hR⟩:∃ R,R=i1 0 xs:=⟨_,rfl⟩
 rw[← hR]
 obtain⟨k,a,s,t,l,fs⟩:=v
 simp only[Val.pv_mk,sJ] at h243 h242 hseq
 refine aw.intro HI (by simp[F15]) ?_
 simp(maxSteps:=9^7) (disch:=first|exact dI|fail) only[F15,Val.pv_mk,push_cast,seval]
 refine ae.pure h242 rfl ?_
 simp(maxSteps:=9^7) (disch:=first|exact dI|fail) only[ud,nE,push_cast,seval]
 refine ae.pure h243 rfl ?_
 simp(maxSteps:=9^7) (disch:=first|exact dI|fail) only[push_cast,seval]
 refine E0 ([]) (fun i:Nat=>[]) (fun i:Nat=>[(2,.cells 3 true [.pv (.int .i64 (i:Int))])]) (fun j i=>j=i∧i≤4096∧R=i1 i (xs.drop i)) (0) (hseq) ?_;intro e0 σ0 n0 h0;simp(maxSteps:=9^7) (disch:=first|exact dI|fail) only[push_cast,seval] at h0;obtain⟨rfl,rfl,rfl⟩:=h0;refine⟨?_,?_,?_,?_,?_⟩
 ·simp(maxSteps:=9^7) (disch:=first|exact dI|fail) only[push_cast,seval]
 ·exact⟨rfl,by omega,by simpa using hR⟩
 ·rfl
 ·rintro j i y hy ⟨hij,hj4,hr⟩
  subst hij
  obtain⟨q,hq⟩:∃ q,xs[j]? = some q:=by
   cases h:xs[j]? with
   | none=>simp[h] at hy
   | some q=>exact⟨q,rfl⟩
  have hye:y=wV q:=by simpa[hq] using hy.symm
  subst hye
  rw[El hq] at hr
  have hjl:j<xs.length:=(List.getElem?_eq_some_iff.1 hq).1
  obtain⟨lv,x⟩:=q
  have h111:=l7 x
  have hrule:=CN x
  have huse:=Cm x
  obtain⟨k',n',s',t',l',f'⟩:=x
  simp only[Val.pv_mk,Val.kind] at h111 hrule huse
  refine⟨rfl,?_⟩
  simp only[wV,Val.pv_mk]
  clear hy h242 h243 hseq
  by_cases c1:4096≤j
  ·have e:bf j (lv,Val.mk k' n' s' t' l' f')=9:=if_pos c1
   rw[e,if_neg (by omega)] at hr
   subst hr
   simp(maxSteps:=9^7) (disch:=first|exact dI|fail) only[push_cast,seval]
  ·have hj1:¬ (4096:Int)<(j:Int)+1:=by omega
   by_cases c2:8<lv
   ·have e:bf j (lv,Val.mk k' n' s' t' l' f')=23:=sB c1 c2
    rw[e,if_neg (by omega)] at hr
    subst hr
    simp(maxSteps:=9^7) (disch:=first|exact dI|fail) only[push_cast,seval]
   ·cases c3:bt (Val.mk k' n' s' t' l' f') with
    | true=>
      have e:bf j (lv,Val.mk k' n' s' t' l' f')=19:=sA c1 c2 c3
      rw[e,if_neg (by omega)] at hr
      subst hr
      rw[c3] at h111
      simp(maxSteps:=9^7) (disch:=first|exact dI|fail) only[push_cast,seval]
      refine ae.pure h111 rfl ?_
      simp(maxSteps:=9^7) (disch:=first|exact dI|fail) only[push_cast,seval]
    | false=>
      rw[c3] at h111
      by_cases c4:k'<1∨10<k'
      ·have e:bf j (lv,Val.mk k' n' s' t' l' f')=11:=sy c1 c2 c3 c4
       rw[e,if_neg (by omega)] at hr
       subst hr
       rcases c4 with c4 | c4
       ·simp(maxSteps:=9^7) (disch:=first|exact dI|fail) only[push_cast,seval]
        refine ae.pure h111 rfl ?_
        simp(maxSteps:=9^7) (disch:=first|exact dI|fail) only[push_cast,seval]
       ·simp(maxSteps:=9^7) (disch:=first|exact dI|fail) only[push_cast,seval]
        refine ae.pure h111 rfl ?_
        simp(maxSteps:=9^7) (disch:=first|exact dI|fail) only[push_cast,seval]
      ·have huse:=huse (by omega)
       have hrule:=hrule (by omega)
       cases c5:az (Val.mk k' n' s' t' l' f') with
       | false=>
         have e:bf j (lv,Val.mk k' n' s' t' l' f')=3:=sx c1 c2 c3 c4 c5
         rw[e,if_neg (by omega)] at hr
         subst hr
         rw[c5] at huse
         simp(maxSteps:=9^7) (disch:=first|exact dI|fail) only[push_cast,seval]
         refine ae.pure h111 rfl ?_
         simp(maxSteps:=9^7) (disch:=first|exact dI|fail) only[push_cast,seval]
         refine ae.pure huse rfl ?_
         simp(maxSteps:=9^7) (disch:=first|exact dI|fail) only[push_cast,seval]
       | true=>
         have e:bf j (lv,Val.mk k' n' s' t' l' f')=aS (Val.mk k' n' s' t' l' f'):=sw c1 c2 c3 c4 c5
         rw[e] at hr
         rw[c5] at huse
         generalize aS (Val.mk k' n' s' t' l' f')=z at hr hrule
         have hkc:([AV.pv PV.nilf,AV.pv (PV.clo 69 [] []),AV.pv (PV.clo 71 [] []),AV.pv (PV.clo 72 [] []),AV.pv (PV.clo 74 [] []),AV.pv (PV.clo 77 [] []),AV.pv (PV.clo 78 [] []),AV.pv (PV.clo 79 [] []),AV.pv (PV.clo 80 [] []),AV.pv (PV.clo 81 [] []),AV.pv (PV.clo 83 [] [])]:List AV)[k'.toNat*1]? = some (.pv (.clo (CO k') [] [])):=by
          have hc:k'=1∨k'=2∨k'=3∨k'=4∨k'=5∨k'=6∨k'=7∨k'=8∨k'=9∨k'=10:=by omega
          rcases hc with h | h | h | h | h | h | h | h | h | h<;>rw[h]<;>rfl
         generalize CO k'=rf at hkc hrule
         by_cases hz:z=0
         ·rw[if_pos hz] at hr
          subst hz
          simp(maxSteps:=9^7) (disch:=first|exact dI|fail) only[push_cast,seval]
          refine ae.pure h111 rfl ?_
          simp(maxSteps:=9^7) (disch:=first|exact dI|fail) only[push_cast,seval]
          refine ae.pure huse rfl ?_
          simp(maxSteps:=9^7) (disch:=first|exact dI|fail) only[fR,hkc,push_cast,seval]
          refine ae.pure hrule rfl ?_
          simp(maxSteps:=9^7) (disch:=first|exact dI|fail) only[push_cast,seval]
          exact⟨j+1,bX (by simp(maxSteps:=9^7) (disch:=first|exact dI|fail) only[push_cast,seval]),rfl,by omega,hr⟩
         ·rw[if_neg hz] at hr
          subst hr
          simp(maxSteps:=9^7) (disch:=first|exact dI|fail) only[push_cast,seval]
          refine ae.pure h111 rfl ?_
          simp(maxSteps:=9^7) (disch:=first|exact dI|fail) only[push_cast,seval]
          refine ae.pure huse rfl ?_
          simp(maxSteps:=9^7) (disch:=first|exact dI|fail) only[fR,hkc,push_cast,seval]
          refine ae.pure hrule rfl ?_
          simp(maxSteps:=9^7) (disch:=first|exact dI|fail) only[push_cast,seval]
 ·rintro j ⟨hj,hj4,hr⟩
  simp only[List.length_map] at hj
  subst hj
  rw[List.drop_length] at hr
  rw[show R=0 from hr]
  simp(maxSteps:=9^7) (disch:=first|exact dI|fail) only[push_cast,seval]
end Go.Proofs.YtamoeblcphjbaaaGreatDoor
set_option maxRecDepth 100000
set_option linter.unusedVariables false
set_option linter.unusedSimpArgs false
-- many steps
namespace Go.Proofs.YtamoeblcphjbaaaGreatDoor
open Go Go.Ab
attribute [local irreducible] vc
noncomputable def qG (n:Int):List UInt8:=if h:-719162≤n∧n≤2932896 then (n5 h.1 h.2).choose else []
theorem mT {n:Int}(h:-719162≤n∧n≤2932896):aw Tryz.prog aD 43 [.int .i64 n] (.tup [.str (qG n),.int .i64 0])∧bZ (qG n)∧(qG n).length≤10:=by
 rw[qG,dif_pos h];exact (n5 h.1 h.2).choose_spec
noncomputable def eG (n:Int):List UInt8:=if h:-62135596800000≤n∧n≤253402300799999 then (jm h.1 h.2).choose else []
theorem iz {n:Int}(h:-62135596800000≤n∧n≤253402300799999):aw Tryz.prog aD 44 [.int .i64 n] (.tup [.str (eG n),.int .i64 0])∧bZ (eG n)∧(eG n).length≤24:=by
 rw[eG,dif_pos h];exact (jm h.1 h.2).choose_spec
theorem fT {s:List UInt8}(h:bZ s):a8 s=34::(s++[34]):=by unfold a8;rw[h]
noncomputable def aq:Nat→Val→List UInt8
 | 0,_=>[]
 | f+1,.mk k n s t l fs=>
   if k=0 then [110,117,108,108] else if k=1 then (if n=1 then [116,114,117,101] else [102,97,108,115,101]) else if k=2 then bW n
   else if k=3 then vW n s.toNat++(if s=0 then [100] else []) else if k=4 then a8 t else if k=5 then rp t
   else if k=6 then [100,97,116,101,32]++a8 (qG n) else if k=7 then [116,105,109,101,32]++a8 (eG n)
   else if k=8 then [91]++aK [44,32] (l.map (aq f))++[93]
   else if k=9 then [123]++aK [44,32] (fs.map fun x=>x.name++[58,32]++aq f x.value)++[125]
   else t++[40]++aq f (l.headD (.mk 0 0 0 [] [] []))++[41]
theorem zm {n:Int}{sc:Nat}(h:IsN n sc):aw Tryz.prog aD 67 [.int .i64 n,.int .i64 (sc:Int)] (.str (vW n sc)):=by
 have h1:=Bl h
 refine aw.intro Ho (by simp[F67]) ?_
 simp(maxSteps:=9^7) (disch:=first|exact dI|fail) only[F67,push_cast,seval]
 refine ae.pure h1 rfl ?_
 simp(maxSteps:=9^7) (disch:=first|exact dI|fail) only[push_cast,seval]
section
variable (f:Nat)(n s:Int)(t:List UInt8)(l:List Val)(fs:List Fld)
theorem xL:aw Tryz.prog aD 37 [(Val.mk 0 n s t l fs).pv] (.str (aq (f+1) (.mk 0 n s t l fs))):=by
 rw[show aq (f+1) (.mk 0 n s t l fs)=[110,117,108,108] from rfl]
 refine aw.intro cr (by simp[F37]) ?_
 simp(maxSteps:=9^7) (disch:=first|exact dI|fail) only[F37,Val.pv_mk,push_cast,seval]
theorem xJ (h:-999999999999999≤n∧n≤999999999999999):aw Tryz.prog aD 37 [(Val.mk 2 n s t l fs).pv] (.str (aq (f+1) (.mk 2 n s t l fs))):=by
 rw[show aq (f+1) (.mk 2 n s t l fs)=bW n from rfl]
 have hi:=iQ n (by omega) (by omega)
 refine aw.intro cr (by simp[F37]) ?_
 simp(maxSteps:=9^7) (disch:=first|exact dI|fail) only[F37,Val.pv_mk,push_cast,seval]
 refine ae.pure hi rfl ?_
 simp(maxSteps:=9^7) (disch:=first|exact dI|fail) only[push_cast,seval]
theorem xH (h:t.length≤1024):aw Tryz.prog aD 37 [(Val.mk 4 n s t l fs).pv] (.str (aq (f+1) (.mk 4 n s t l fs))):=by
 rw[show aq (f+1) (.mk 4 n s t l fs)=a8 t from rfl]
 have hi:=lU t (by omega)
 refine aw.intro cr (by simp[F37]) ?_
 simp(maxSteps:=9^7) (disch:=first|exact dI|fail) only[F37,Val.pv_mk,push_cast,seval]
 refine ae.pure hi rfl ?_
 simp(maxSteps:=9^7) (disch:=first|exact dI|fail) only[push_cast,seval]
theorem xG (h:t.length≤1024):aw Tryz.prog aD 37 [(Val.mk 5 n s t l fs).pv] (.str (aq (f+1) (.mk 5 n s t l fs))):=by
 rw[show aq (f+1) (.mk 5 n s t l fs)=rp t from rfl]
 have hi:=y5 t (by omega)
 refine aw.intro cr (by simp[F37]) ?_
 simp(maxSteps:=9^7) (disch:=first|exact dI|fail) only[F37,Val.pv_mk,push_cast,seval]
 refine ae.pure hi rfl ?_
 simp(maxSteps:=9^7) (disch:=first|exact dI|fail) only[push_cast,seval]
theorem cl (x:List UInt8):(a8 x).length≤6*x.length+2:=by
 have:=er x
 rw[a8,List.length_cons,List.length_append,List.length_singleton];omega
theorem xF (h:-719162≤n∧n≤2932896):aw Tryz.prog aD 37 [(Val.mk 6 n s t l fs).pv] (.str (aq (f+1) (.mk 6 n s t l fs))):=by
 rw[show aq (f+1) (.mk 6 n s t l fs)=[100,97,116,101,32]++a8 (qG n) from rfl]
 obtain⟨h1,h2,h3⟩:=mT h
 have hi:=lU (qG n) (by omega)
 have hq:=cl (qG n)
 generalize a8 (qG n)=Q at *
 refine aw.intro cr (by simp[F37]) ?_
 simp(maxSteps:=9^7) (disch:=first|exact dI|fail) only[F37,Val.pv_mk,push_cast,seval]
 refine ae.pure h1 rfl ?_
 simp(maxSteps:=9^7) (disch:=first|exact dI|fail) only[push_cast,seval]
 refine ae.pure hi rfl ?_
 simp(maxSteps:=9^7) (disch:=first|exact dI|fail) only[push_cast,seval]
theorem xE (h:-62135596800000≤n∧n≤253402300799999):aw Tryz.prog aD 37 [(Val.mk 7 n s t l fs).pv] (.str (aq (f+1) (.mk 7 n s t l fs))):=by
 rw[show aq (f+1) (.mk 7 n s t l fs)=[116,105,109,101,32]++a8 (eG n) from rfl]
 obtain⟨h1,h2,h3⟩:=iz h
 have hi:=lU (eG n) (by omega)
 have hq:=cl (eG n)
 generalize a8 (eG n)=Q at *
 refine aw.intro cr (by simp[F37]) ?_
 simp(maxSteps:=9^7) (disch:=first|exact dI|fail) only[F37,Val.pv_mk,push_cast,seval]
 refine ae.pure h1 rfl ?_
 simp(maxSteps:=9^7) (disch:=first|exact dI|fail) only[push_cast,seval]
 refine ae.pure hi rfl ?_
 simp(maxSteps:=9^7) (disch:=first|exact dI|fail) only[push_cast,seval]
end
end Go.Proofs.YtamoeblcphjbaaaGreatDoor
set_option maxRecDepth 100000
set_option linter.unusedVariables false
set_option linter.unusedSimpArgs false
-- many steps
namespace Go.Proofs.YtamoeblcphjbaaaGreatDoor
open Go Go.Ab
attribute [local irreducible] vc
def mZ (b:Bool):List UInt8:=if b=true then [116,114,117,101] else [102,97,108,115,101]
theorem As (b:Bool):aw Tryz.prog aD 146 [.bool b] (.str (mZ b)):=by
 refine aw.intro EL (by simp[HX]) ?_
 cases b with
 | true=>simp(maxSteps:=9^7) (disch:=first|exact dI|fail) only[HX,mZ,push_cast,seval]
 | false=>simp(maxSteps:=9^7) (disch:=first|exact dI|fail) only[HX,mZ,push_cast,seval]
theorem vE (b:Bool):aw Tryz.prog aD 65 [.bool b] (.str (mZ b)):=by
 have h:=As b
 generalize mZ b=Q at *
 refine aw.intro Hp (by simp[F65]) ?_
 simp(maxSteps:=9^7) (disch:=first|exact dI|fail) only[F65,push_cast,seval]
 refine ae.pure h rfl ?_
 simp(maxSteps:=9^7) (disch:=first|exact dI|fail) only[push_cast,seval]
section
variable (f:Nat)(n s:Int)(t:List UInt8)(l:List Val)(fs:List Fld)
theorem xK:aw Tryz.prog aD 37 [(Val.mk 1 n s t l fs).pv] (.str (aq (f+1) (.mk 1 n s t l fs))):=by
 rw[show aq (f+1) (.mk 1 n s t l fs)=(if n=1 then [116,114,117,101] else [102,97,108,115,101]) from rfl]
 by_cases h:n=1
 ·rw[if_pos h]
  have hb:=vE true
  rw[show mZ true=[116,114,117,101] from rfl] at hb
  refine aw.intro cr (by simp[F37]) ?_
  simp(maxSteps:=9^7) (disch:=first|exact dI|fail) only[F37,Val.pv_mk,h,push_cast,seval]
  refine ae.pure hb rfl ?_
  simp(maxSteps:=9^7) (disch:=first|exact dI|fail) only[push_cast,seval]
 ·rw[if_neg h]
  have hb:=vE false
  rw[show mZ false=[102,97,108,115,101] from rfl] at hb
  refine aw.intro cr (by simp[F37]) ?_
  simp(maxSteps:=9^7) (disch:=first|exact dI|fail) only[F37,Val.pv_mk,h,push_cast,seval]
  refine ae.pure hb rfl ?_
  simp(maxSteps:=9^7) (disch:=first|exact dI|fail) only[push_cast,seval]
theorem iZ {n:Int}{sc:Nat}(h:IsN n sc):(vW n sc).length≤1000:=by
 obtain⟨h1,h2,h3⟩:=h
 have hd:=(mR (a:=n.natAbs) (by omega)).2.1
 unfold vW
 rw[List.length_append,List.length_append,aT]
 split<;>split<;>simp[aT]<;>omega
theorem xI (h:IsN n s.toNat)(hs:0≤s):aw Tryz.prog aD 37 [(Val.mk 3 n s t l fs).pv] (.str (aq (f+1) (.mk 3 n s t l fs))):=by
 rw[show aq (f+1) (.mk 3 n s t l fs)=vW n s.toNat++(if s=0 then [100] else []) from rfl]
 obtain⟨m,hm⟩:∃ m:Nat,s=(m:Int):=⟨s.toNat,by omega⟩
 subst hm
 rw[Int.toNat_natCast] at h ⊢
 have h1:=zm h
 have hl:=iZ h
 generalize vW n m=D at *
 by_cases h0:m=0
 ·subst h0
  rw[if_pos (show ((0:Nat):Int)=0 from rfl)]
  refine aw.intro cr (by simp[F37]) ?_
  simp(maxSteps:=9^7) (disch:=first|exact dI|fail) only[F37,Val.pv_mk,push_cast,seval]
  refine ae.pure h1 rfl ?_
  simp(maxSteps:=9^7) (disch:=first|exact dI|fail) only[push_cast,seval]
 ·have h0I:¬ (m:Int)=0:=by omega
  rw[if_neg h0I,List.append_nil]
  refine aw.intro cr (by simp[F37]) ?_
  simp(maxSteps:=9^7) (disch:=first|exact dI|fail) only[F37,Val.pv_mk,h0I,push_cast,seval]
  refine ae.pure h1 rfl ?_
  simp(maxSteps:=9^7) (disch:=first|exact dI|fail) only[h0I,push_cast,seval]
end
end Go.Proofs.YtamoeblcphjbaaaGreatDoor
