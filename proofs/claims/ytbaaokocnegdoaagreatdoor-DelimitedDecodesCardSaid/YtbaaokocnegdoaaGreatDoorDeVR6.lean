/- A part of the proof. -/
import Derived.Test.YtbaaokocnegdoaaGreatDoorDeVR3
set_option linter.unusedVariables false
set_option linter.unusedSimpArgs false
set_option maxHeartbeats 16000000
set_option maxRecDepth 100000
namespace Go.Proofs.YtbaaokocnegdoaaGreatDoor
open Go Go.Ab
attribute [local irreducible] vc
def aY (i:Nat)(q:Int×Val):Int:=
 if 4096<=i then 9 else if 8<q.1 then 23 else if bf q.2=true then 19 else if q.2.kind<1\/10<q.2.kind then 11 else if bl q.2=false then 3 else be q.2
section
variable {i:Nat}{q:Int×Val}
theorem LD (c1:¬ 4096<=i)(c2:8<q.1):aY i q=23:=by unfold aY;rw[if_neg c1,if_pos c2]
theorem LC (c1:¬ 4096<=i)(c2:¬ 8<q.1)(c3:bf q.2=true):aY i q=19:=by unfold aY;rw[if_neg c1,if_neg c2,if_pos c3]
theorem LB (c1:¬ 4096<=i)(c2:¬ 8<q.1)(c3:bf q.2=false)(c4:q.2.kind<1\/10<q.2.kind):aY i q=11:=by unfold aY;rw[if_neg c1,if_neg c2,if_neg (by rw[c3];simp),if_pos c4]
theorem LA (c1:¬ 4096<=i)(c2:¬ 8<q.1)(c3:bf q.2=false)(c4:¬ (q.2.kind<1\/10<q.2.kind))(c5:bl q.2=false):aY i q=3:=by unfold aY;rw[if_neg c1,if_neg c2,if_neg (by rw[c3];simp),if_neg c4,if_pos c5]
theorem Bi (c1:¬ 4096<=i)(c2:¬ 8<q.1)(c3:bf q.2=false)(c4:¬ (q.2.kind<1\/10<q.2.kind))(c5:bl q.2=true):aY i q=be q.2:=by unfold aY;rw[if_neg c1,if_neg c2,if_neg (by rw[c3];simp),if_neg c4,if_neg (by rw[c5];simp)]
end
def iE:Nat->List (Int×Val)->Int
 | _,[]=>0
 | i,q::r=>if aY i q=0 then iE (i+1) r else aY i q
def LY (k:Int):Nat:=if k=1 then 268 else if k=2 then 270 else if k=3 then 271 else if k=4 then 273 else if k=5 then 275 else if k=6 then 276 else if k=7 then 277 else if k=8 then 278 else if k=9 then 279 else 280
theorem LX (v:Val)(h:1<=v.kind/\v.kind<=10):ak Tryz.prog aq (LY v.kind) [v.pv] (.int .i64 (be v)):=by
 have hc:v.kind=1\/v.kind=2\/v.kind=3\/v.kind=4\/v.kind=5\/v.kind=6\/v.kind=7\/v.kind=8\/v.kind=9\/v.kind=10:=by omega
 rcases hc with h | h | h | h | h | h | h | h | h | h<;>rw[h]
 ·exact L8 v h
 ·exact L7 v h
 ·exact L6 v h
 ·exact L5 v h
 ·exact L4 v h
 ·exact L3 v h
 ·exact L2 v h
 ·exact L1 v h
 ·exact L0 v h
 ·exact LZ v h
theorem kK {n sz r o:Nat}{k:IntKind}{i:Int}(h0:0<=i)(h1:i.toNat<n):iO n sz (.ptr r o) (.pv (.int k i))=some (.ptr r (o+i.toNat*sz)):=if_pos ⟨h0,h1⟩
theorem Ln (x:Val)(h:1<=x.kind/\x.kind<=10):ak Tryz.prog aq 244 [x.pv] (.bool (bl x)):=Lm x h
theorem NV {xs:List (Int×Val)}{i:Nat}{q:Int×Val}(h:xs[i]? = some q):iE i (xs.drop i)=if aY i q=0 then iE (i+1) (xs.drop (i+1)) else aY i q:=by
 have hi:i<xs.length:=(List.getElem?_eq_some_iff.1 h).1
 have he:xs[i]=q:=(List.getElem?_eq_some_iff.1 h).2
 rw[List.drop_eq_getElem_cons hi,he,iE]
theorem vO (n:Nat)(v:Val)(hd:cy n v)(hv:v.ok)(hn:n<=9223372036854775806):ak Tryz.prog aq 192 [v.pv] (.int .i64 (iE 0 (cf n 1 v))):=by
 have hseq:=jm n v hd hv hn
 have h243:=kN v
 have h242:=GV
 generalize hxs:cf n 1 v=xs at *
 obtain⟨R,hR⟩:∃ R,R=iE 0 xs:=⟨_,rfl⟩
 rw[<- hR]
 obtain⟨k,a,s,t,l,fs⟩:=v
 simp only[Val.pv_mk,By] at h243 h242 hseq
 refine ak.intro Ub.2 (by simp[Ub]) ?_
 simp(disch:=try exact dI) only[Ub,Val.pv_mk,push_cast,seval]
 refine ab.pure h242 rfl ?_
 simp(disch:=try exact dI) only[CN,uD,push_cast,seval]
 refine ab.pure h243 rfl ?_
 refine zgZ ?_
 refine J9 ([]) (fun i:Nat=>[]) (fun i:Nat=>[(2,.cells 3 true [.pv (.int .i64 (i:Int))])]) (fun j i=>j=i/\i<=4096/\R=iE i (xs.drop i)) (0) (hseq) ?_;intro e0 σ0 n0 h0;simp(disch:=try exact dI) only[push_cast,seval] at h0;obtain⟨rfl,rfl,rfl⟩:=h0;refine⟨?_,?_,?_,?_,?_⟩
 ·exact qsZ
 ·exact⟨rfl,by omega,by simpa using hR⟩
 ·rfl
 ·rintro j i y hy ⟨hij,hj4,hr⟩
  subst hij
  obtain⟨q,hq⟩:∃ q,xs[j]? = some q:=by
   cases h:xs[j]? with
   | none=>simp[h] at hy
   | some q=>exact⟨q,rfl⟩
  have hye:y=Aq q:=by simpa[hq] using hy.symm
  subst hye
  rw[NV hq] at hr
  have hjl:j<xs.length:=(List.getElem?_eq_some_iff.1 hq).1
  obtain⟨lv,x⟩:=q
  have h111:=sG x
  have hrule:=LX x
  have huse:=Ln x
  obtain⟨k',n',s',t',l',f'⟩:=x
  simp only[Val.pv_mk,Val.kind] at h111 hrule huse
  refine⟨rfl,?_⟩
  simp only[Aq,Val.pv_mk]
  clear hy h242 h243 hseq
  by_cases c1:4096<=j
  ·have e:aY j (lv,Val.mk k' n' s' t' l' f')=9:=if_pos c1
   rw[e,if_neg (by omega)] at hr
   subst hr
   exact qsZ
  ·have hj1:¬ (4096:Int)<(j:Int)+1:=by omega
   by_cases c2:8<lv
   ·have e:aY j (lv,Val.mk k' n' s' t' l' f')=23:=LD c1 c2
    rw[e,if_neg (by omega)] at hr
    subst hr
    exact qsZ
   ·cases c3:bf (Val.mk k' n' s' t' l' f') with
    | true=>
      have e:aY j (lv,Val.mk k' n' s' t' l' f')=19:=LC c1 c2 c3
      rw[e,if_neg (by omega)] at hr
      subst hr
      rw[c3] at h111
      refine zgZ ?_
      refine ab.pure h111 rfl ?_
      exact qsZ
    | false=>
      rw[c3] at h111
      by_cases c4:k'<1\/10<k'
      ·have e:aY j (lv,Val.mk k' n' s' t' l' f')=11:=LB c1 c2 c3 c4
       rw[e,if_neg (by omega)] at hr
       subst hr
       rcases c4 with c4 | c4
       ·refine zgZ ?_
        refine ab.pure h111 rfl ?_
        exact qsZ
       ·refine zgZ ?_
        refine ab.pure h111 rfl ?_
        exact qsZ
      ·have huse:=huse (by omega)
       have hrule:=hrule (by omega)
       cases c5:bl (Val.mk k' n' s' t' l' f') with
       | false=>
         have e:aY j (lv,Val.mk k' n' s' t' l' f')=3:=LA c1 c2 c3 c4 c5
         rw[e,if_neg (by omega)] at hr
         subst hr
         rw[c5] at huse
         refine zgZ ?_
         refine ab.pure h111 rfl ?_
         refine zgZ ?_
         refine ab.pure huse rfl ?_
         exact qsZ
       | true=>
         have e:aY j (lv,Val.mk k' n' s' t' l' f')=be (Val.mk k' n' s' t' l' f'):=Bi c1 c2 c3 c4 c5
         rw[e] at hr
         rw[c5] at huse
         generalize be (Val.mk k' n' s' t' l' f')=z at hr hrule
         have hkc:([AV.pv PV.nilf,AV.pv (PV.clo 268 [] []),AV.pv (PV.clo 270 [] []),AV.pv (PV.clo 271 [] []),AV.pv (PV.clo 273 [] []),AV.pv (PV.clo 275 [] []),AV.pv (PV.clo 276 [] []),AV.pv (PV.clo 277 [] []),AV.pv (PV.clo 278 [] []),AV.pv (PV.clo 279 [] []),AV.pv (PV.clo 280 [] [])]:List AV)[k'.toNat*1]? = some (.pv (.clo (LY k') [] [])):=by
          have hc:k'=1\/k'=2\/k'=3\/k'=4\/k'=5\/k'=6\/k'=7\/k'=8\/k'=9\/k'=10:=by omega
          rcases hc with h | h | h | h | h | h | h | h | h | h<;>rw[h]<;>rfl
         generalize LY k'=rf at hkc hrule
         by_cases hz:z=0
         ·rw[if_pos hz] at hr
          subst hz
          refine zgZ ?_
          refine ab.pure h111 rfl ?_
          refine zgZ ?_
          refine ab.pure huse rfl ?_
          simp(disch:=try exact dI) only[kK,hkc,push_cast,seval]
          refine ab.pure hrule rfl ?_
          refine zgZ ?_
          exact⟨j+1,aK qsZ,rfl,by omega,hr⟩
         ·rw[if_neg hz] at hr
          subst hr
          refine zgZ ?_
          refine ab.pure h111 rfl ?_
          refine zgZ ?_
          refine ab.pure huse rfl ?_
          simp(disch:=try exact dI) only[kK,hkc,push_cast,seval]
          refine ab.pure hrule rfl ?_
          exact qsZ
 ·rintro j ⟨hj,hj4,hr⟩
  simp only[List.length_map] at hj
  subst hj
  rw[List.drop_length] at hr
  rw[show R=0 from hr]
  exact qsZ
theorem LI (n:Nat)(v:Val)(hd:cy n v)(hv:v.ok)(hn:n<=9223372036854775806)(hs:(cf n 1 v).length<=9223372036854775806):ak Tryz.prog aq 194 [v.pv] (.int .i64 ((cf n 1 v).length:Int)):=by
 have hseq:=jm n v hd hv hn
 have h243:=kN v
 generalize hxs:cf n 1 v=xs at *
 obtain⟨k,a,s,t,l,fs⟩:=v
 simp only[Val.pv_mk] at h243 hseq
 refine ak.intro Ua.2 (by simp[Ua]) ?_
 simp(disch:=try exact dI) only[Ua,Val.pv_mk,push_cast,seval]
 refine ab.pure h243 rfl ?_
 refine zgZ ?_
 refine J9 ([]) (fun i:Nat=>[]) (fun i:Nat=>[(0,.cells 3 true [.pv (.int .i64 (i:Int))])]) (fun j i=>j=i/\i<=xs.length) (0) (hseq) ?_;intro e0 σ0 n0 h0;simp(disch:=try exact dI) only[push_cast,seval] at h0;obtain⟨rfl,rfl,rfl⟩:=h0;refine⟨?_,?_,?_,?_,?_⟩
 ·exact qsZ
 ·exact⟨rfl,by omega⟩
 ·rfl
 ·rintro j i y hy ⟨hij,hi⟩
  subst hij
  have hjl:j<xs.length:=by
   have:=(List.getElem?_eq_some_iff.1 hy).1
   simpa using this
  obtain⟨q,hq⟩:∃ q,xs[j]? = some q:=⟨_,List.getElem?_eq_getElem hjl⟩
  have hye:y=Aq q:=by simpa[hq] using hy.symm
  subst hye
  obtain⟨lv,⟨k',n',s',t',l',f'⟩⟩:=q
  refine⟨rfl,?_⟩
  simp only[Aq,Val.pv_mk]
  clear hy h243 hseq
  refine zgZ ?_
  exact⟨j+1,aK qsZ,rfl,by omega⟩
 ·rintro j ⟨hj,hi⟩
  simp only[List.length_map] at hj
  subst hj
  exact qsZ
def inB (n a b:Int):Bool:=decide (a<=n)&&decide (n<=b)
theorem qC (n a b:Int):ak Tryz.prog aq 187 [.int .i64 n,.int .i64 a,.int .i64 b] (.bool (inB n a b)):=by
 refine ak.intro Oq.2 (by simp[Oq]) ?_
 by_cases h1:a<=n
 ·by_cases h2:n<=b
  ·rw[show inB n a b=true by simp[inB,h1,h2]]
   simp(disch:=try exact dI) only[Oq,push_cast,seval]
  ·rw[show inB n a b=false by simp[inB,h2]]
   simp(disch:=try exact dI) only[Oq,push_cast,seval]
 ·rw[show inB n a b=false by simp[inB,h1]]
  simp(disch:=try exact dI) only[Oq,push_cast,seval]
theorem ln (n a b:Int):ak Tryz.prog aq 195 [.int .i64 n,.int .i64 a,.int .i64 b] (.bool (inB n a b)):=by
 refine ak.intro RS.2 (by simp[RS]) ?_
 by_cases h1:a<=n
 ·by_cases h2:n<=b
  ·rw[show inB n a b=true by simp[inB,h1,h2]]
   simp(disch:=try exact dI) only[RS,push_cast,seval]
  ·rw[show inB n a b=false by simp[inB,h2]]
   simp(disch:=try exact dI) only[RS,push_cast,seval]
 ·rw[show inB n a b=false by simp[inB,h1]]
  simp(disch:=try exact dI) only[RS,push_cast,seval]
def lim (nm:List UInt8)(lo hi:Int)(b1 b2 b3 b4 b5:Bool):PV:=.agg [.str nm,.int .i64 lo,.int .i64 hi,.bool b1,.bool b2,.bool b3,.bool b4,.bool b5]
def i6 (b1 b2 b3 b4 b5:Bool):Typ->Bool
 | .mk k m M s w e f=>(!b1&&!(decide (m=0)&&decide (M=0)))||((!b2&&!decide (s=0))||((!b3&&!decide (w.length=0))||((!b4&&!decide (e.length=0))||(!b5&&!decide (f.length=0)))))
theorem Dn (b:Bool)(n:Nat):(b=false/\(0:Int)<(n:Int)/\¬ n=0)\/(b=false/\¬ (0:Int)<(n:Int)/\n=0)\/b=true:=by
 cases b<;>by_cases h:n=0<;>simp[h];omega
theorem Nw (k m M s:Int)(w:List (List UInt8))(e:List Typ)(f:List TFd)(nm:List UInt8)(lo hi:Int)(b1 b2 b3 b4 b5:Bool):ak Tryz.prog aq 189 [(Typ.mk k m M s w e f).pv,lim nm lo hi b1 b2 b3 b4 b5] (.int .i64 (if i6 b1 b2 b3 b4 b5 (.mk k m M s w e f)=true then 3 else 0)):=by
 obtain⟨r,hr⟩:∃ r,r=i6 b1 b2 b3 b4 b5 (.mk k m M s w e f):=⟨_,rfl⟩
 rw[<- hr]
 refine ak.intro RT.2 (by simp[RT]) ?_
 have h1:(b1=false/\¬ m=0)\/(b1=false/\m=0/\¬ M=0)\/(b1=false/\m=0/\M=0)\/b1=true:=by cases b1<;>simp<;>omega
 have h2:(b2=false/\¬ s=0)\/(b2=false/\s=0)\/b2=true:=by cases b2<;>simp<;>omega
 have h3:=Dn b3 w.length
 have h4:=Dn b4 e.length
 have h5:=Dn b5 f.length
 rcases h1 with ⟨rfl,a⟩ | ⟨rfl,a,b⟩ | ⟨rfl,a,b⟩ | rfl
 all_goals first | (have:=hend;skip) | (refine aM (c:=true) hr ?_ ?_;(focus (simp[i6, *];done));rintro rfl;have hend:=trivial;clear h2 h3 h4 h5) | rcases h2 with ⟨rfl,a2⟩ | ⟨rfl,a2⟩ | rfl
 all_goals first | (have:=hend;skip) | (refine aM (c:=true) hr ?_ ?_;(focus (simp[i6, *];done));rintro rfl;have hend:=trivial;clear h3 h4 h5) | rcases h3 with ⟨rfl,a3,c3⟩ | ⟨rfl,a3,c3⟩ | rfl
 all_goals first | (have:=hend;skip) | (refine aM (c:=true) hr ?_ ?_;(focus (simp[i6, *];done));rintro rfl;have hend:=trivial;clear h4 h5) | rcases h4 with ⟨rfl,a4,c4⟩ | ⟨rfl,a4,c4⟩ | rfl
 all_goals first | (have:=hend;skip) | (refine aM (c:=true) hr ?_ ?_;(focus (simp[i6, *];done));rintro rfl;have hend:=trivial;clear h5) | rcases h5 with ⟨rfl,a5,c5⟩ | ⟨rfl,a5,c5⟩ | rfl
 all_goals first | (have:=hend;skip) | (refine aM (c:=true) hr ?_ ?_;(focus (simp[i6, *];done));rintro rfl) | (refine aM (c:=false) hr ?_ ?_;(focus (simp[i6, *];done));rintro rfl)
 all_goals clear hr
 all_goals simp(disch:=try exact dI) only[RT,Typ.pv_mk,lim, *,push_cast,seval]
def dz (w:List UInt8):Val:=.mk 4 0 0 w [] []
def mb (w:List UInt8):Int:=if cW w.length 1024 5=0 then (if Lib.validD w=true then 0 else 16) else cW w.length 1024 5
theorem Lu (w:List UInt8):ak Tryz.prog aq 239 [.str w] (dz w).pv:=by
 refine ak.intro T7.2 (by simp[T7]) ?_
 simp only[dz,Val.pv_mk,List.map_nil]
 simp(disch:=try exact dI) only[T7,push_cast,seval]
theorem Cr (w:List UInt8):cf 1 1 (dz w)=[(1,dz w)]:=by
 simp[cf,aV,dz,Val.kind]
theorem vK (w:List UInt8):iE 0 (cf 1 1 (dz w))=mb w:=by
 rw[Cr,iE,Bi (by omega) (by simp) (by simp[bf,dz]) (by simp[dz,Val.kind]) (by simp[bl,dz])]
 simp only[iE]
 have e:be (dz w)=mb w:=rfl
 rw[e]
 split
 ·rename_i h;exact h.symm
 ·rfl
theorem ER (w:List UInt8)(hw:w.length<=140737488351232):ak Tryz.prog aq 192 [(dz w).pv] (.int .i64 (mb w)):=by
 have:=vO 1 (dz w) (by simp[cy,aV,dz,Val.kind]) (by simp[dz,Val.ok_mk,I64,hw]) (by omega)
 rw[vK] at this
 exact this
def fa:Option (List UInt8)->List (List UInt8)->Int
 | _,[]=>0
 | p,w::r=>if mb w=0 then (if p=some w then 7 else if (p.any fun q=>bc w q)=true then 24 else fa (some w) r) else mb w
theorem ka {ws:List (List UInt8)}{i:Nat}{w:List UInt8}(h:ws[i]? = some w)(p:Option (List UInt8)):fa p (ws.drop i)=if mb w=0 then (if p=some w then 7 else if (p.any fun q=>bc w q)=true then 24 else fa (some w) (ws.drop (i+1))) else mb w:=by
 have hi:i<ws.length:=(List.getElem?_eq_some_iff.1 h).1
 have he:ws[i]=w:=(List.getElem?_eq_some_iff.1 h).2
 rw[List.drop_eq_getElem_cons hi,he,fa]
def gX (ws:List (List UInt8))(i:Nat):Option (List UInt8):=if i=0 then none else ws[i - 1]?
def bG (m M:Int)(ws:List (List UInt8)):Int:=if ¬ (m=0/\M=0) then 3 else if 64<ws.length then 9 else fa none ws
theorem F3 (k m M s:Int)(ws:List (List UInt8))(e:List Typ)(f:List TFd)(hw:∀ w∈ws,w.length<=140737488351232):ak Tryz.prog aq 190 [(Typ.mk k m M s ws e f).pv] (.int .i64 (bG m M ws)):=by
 refine ak.intro O5.2 (by simp[O5]) ?_
 by_cases hm:m=0
 ·by_cases hM:M=0
  ·by_cases h64:64<ws.length
   ·rw[show bG m M ws=9 by simp[bG,hm,hM,h64]]
    simp(disch:=try exact dI) only[O5,Typ.pv_mk,hm,hM,push_cast,seval]
   ·rw[show bG m M ws=fa none ws by simp[bG,hm,hM,h64]]
    obtain⟨R,hR⟩:∃ R,R=fa none ws:=⟨_,rfl⟩
    rw[<- hR]
    simp(disch:=try exact dI) only[O5,Typ.pv_mk,hm,hM,push_cast,seval]
    refine ap ([]) (fun i:Nat=>[(23,.pv (.int .i64 (i:Int)))]) (fun _=>[]) (fun i=>i<=ws.length/\R=fa (gX ws i) (ws.drop i)) (fun i=>ws.length - i) (0) ?_;intro e0 σ0 n0 h0;simp(disch:=try exact dI) only[push_cast,seval] at h0;obtain⟨rfl,rfl,rfl⟩:=h0;refine⟨?_,?_,?_⟩
    ·exact qsZ
    ·exact⟨by omega,by simpa[gX] using hR⟩
    rintro i ⟨hi,hr⟩
    by_cases hlt:i<ws.length
    ·have hltI:(i:Int)<(ws.length:Int):=by omega
     obtain⟨w,hwi⟩:∃ w,ws[i]? = some w:=⟨_,List.getElem?_eq_getElem hlt⟩
     have hcp:(ws.map PV.str)[i]? = some (.str w):=by simp[hwi]
     have ht:=Lu w
     have hc:=ER w (hw w (List.mem_of_getElem? hwi))
     simp only[dz,Val.pv_mk,List.map_nil] at ht hc
     rw[ka hwi] at hr
     have hnext:gX ws (i+1)=some w:=by simp[gX,hwi]
     generalize mb w=z at hc hr
     by_cases hz:z=0
     ·subst hz
      rw[if_pos rfl] at hr
      by_cases hi0:i=0
      ·have hiI:¬ (0:Int)<(i:Int):=by omega
       have hpn:gX ws i=none:=if_pos hi0
       rw[hpn,if_neg (by simp),if_neg (by simp),<- hnext] at hr
       simp(disch:=try exact dI) only[hcp,push_cast,seval]
       refine ab.pure ht rfl ?_
       refine zgZ ?_
       refine ab.pure hc rfl ?_
       refine zgZ ?_
       exact⟨i+1,aK qsZ,⟨by omega,hr⟩,by omega⟩
      ·obtain⟨j,rfl⟩:∃ j,i=j+1:=⟨i - 1,by omega⟩
       obtain⟨q,hq'⟩:∃ q,ws[j]? = some q:=⟨_,List.getElem?_eq_getElem (by omega)⟩
       have hpn:gX ws (j+1)=some q:=by simp[gX,hq']
       have hcq:(ws.map PV.str)[j]? = some (.str q):=by simp[hq']
       rw[hpn] at hr
       by_cases hq:w=q
       ·subst hq
        rw[if_pos rfl] at hr
        subst hr
        simp(disch:=try exact dI) only[hcp,Int.add_sub_cancel,push_cast,seval]
        refine ab.pure ht rfl ?_
        refine zgZ ?_
        refine ab.pure hc rfl ?_
        simp(disch:=try exact dI) only[hcq,Int.add_sub_cancel,push_cast,seval]
       ·rw[if_neg (by simpa using fun e=>hq e.symm)] at hr
        cases hlt2:bc w q with
        | true=>
          rw[if_pos (by simpa using hlt2)] at hr
          subst hr
          simp(disch:=try exact dI) only[hcp,Int.add_sub_cancel,push_cast,seval]
          refine ab.pure ht rfl ?_
          refine zgZ ?_
          refine ab.pure hc rfl ?_
          simp(disch:=try exact dI) only[hcq,Int.add_sub_cancel,hq,hlt2,push_cast,seval]
        | false=>
          rw[if_neg (by simp[hlt2]),<- hnext] at hr
          simp(disch:=try exact dI) only[hcp,Int.add_sub_cancel,push_cast,seval]
          refine ab.pure ht rfl ?_
          refine zgZ ?_
          refine ab.pure hc rfl ?_
          simp(disch:=try exact dI) only[hcq,Int.add_sub_cancel,hq,hlt2,push_cast,seval]
          exact⟨j+1+1,aK qsZ,⟨by omega,hr⟩,by omega⟩
     ·rw[if_neg hz] at hr
      subst hr
      simp(disch:=try exact dI) only[hcp,push_cast,seval]
      refine ab.pure ht rfl ?_
      refine zgZ ?_
      refine ab.pure hc rfl ?_
      exact qsZ
    ·have hie:i=ws.length:=by omega
     subst hie
     rw[List.drop_length] at hr
     rw[show R=0 from hr]
     exact qsZ
  ·rw[show bG m M ws=3 by simp[bG,hM]]
   simp(disch:=try exact dI) only[O5,Typ.pv_mk,hm,hM,push_cast,seval]
 ·rw[show bG m M ws=3 by simp[bG,hm]]
  simp(disch:=try exact dI) only[O5,Typ.pv_mk,hm,push_cast,seval]
def jv (n:Int)(nm:List UInt8)(g:TFd):Bool:=decide (g.name=nm)||decide (g.number=n)
def eQ (n:Int)(nm:List UInt8)(nd k m M s:Int)(w:List (List UInt8))(e:List Typ)(fs:List TFd)(d:List Val):List AV:=
 [.pv (.int .i64 n),.pv (.str nm),.pv (.int .i64 nd),.pv (.int .i64 k),.pv (.int .i64 m),.pv (.int .i64 M),.pv (.int .i64 s),.pv (.list (w.map PV.str)),.pv (.list (e.map Typ.pv)),.pv (.list (fs.map TFd.pv)),.pv (.list (d.map Val.pv))]
section
variable (n:Int)(nm:List UInt8)(nd k m M s:Int)(w:List (List UInt8))(e:List Typ)(fs:List TFd)(d:List Val)
theorem QL (g:TFd):bF Tryz.prog aq 1 241 [.pv g.pv,.ptr 0 0] [.cells 98 true (eQ n nm nd k m M s w e fs d)] (.pv (.bool (jv n nm g))) [.cells 98 true (eQ n nm nd k m M s w e fs d)]:=by
 obtain⟨n',nm',nd',⟨k',m',M',s',w',e',fs'⟩,d'⟩:=g
 by_cases h1:nm'=nm
 ·rw[show jv n nm (TFd.mk n' nm' nd' (Typ.mk k' m' M' s' w' e' fs') d')=true by simp[jv,TFd.name,h1]]
  refine bF.intro FD.2 (by simp[FD]) ?_
  simp(disch:=try exact dI) only[FD,TFd.pv_mk,Typ.pv_mk,h1,eQ,push_cast,seval]
  exact aE [] qsZ
 ·by_cases h2:n'=n
  ·rw[show jv n nm (TFd.mk n' nm' nd' (Typ.mk k' m' M' s' w' e' fs') d')=true by simp[jv,TFd.number,h2]]
   refine bF.intro FD.2 (by simp[FD]) ?_
   simp(disch:=try exact dI) only[FD,TFd.pv_mk,Typ.pv_mk,h1,h2,eQ,push_cast,seval]
   exact aE [] qsZ
  ·rw[show jv n nm (TFd.mk n' nm' nd' (Typ.mk k' m' M' s' w' e' fs') d')=false by simp[jv,TFd.name,TFd.number,h1,h2]]
   refine bF.intro FD.2 (by simp[FD]) ?_
   simp(disch:=try exact dI) only[FD,TFd.pv_mk,Typ.pv_mk,h1,h2,eQ,push_cast,seval]
   exact aE [] qsZ
end
section
variable (n:Int)(nm:List UInt8)(nd k m M s:Int)(w:List (List UInt8))(e:List Typ)(fs:List TFd)(d:List Val)
theorem DM (l:List TFd)(hl:l.length<=1000000000) :
  bF Tryz.prog aq 1 147 [.pv (.list (l.map TFd.pv)),.clo 241 [] [.ptr 0 0]] [.cells 98 true (eQ n nm nd k m M s w e fs d)] (.pv (.int .i64 (eZ (jv n nm) l 0))) [.cells 98 true (eQ n nm nd k m M s w e fs d)]:=by
 have hq:=fun x=>QL n nm nd k m M s w e fs d x
 generalize jv n nm=q at *
 simp only[eQ] at hq ⊢
 refine bF.intro K3.2 (by simp[K3]) ?_
 simp(disch:=try exact dI) only[K3,push_cast,seval]
 refine ap ([]) (fun m:Nat=>[(8,.pv (.int .i64 (m:Int)))]) (fun m=>[]) (fun m=>m<=l.length/\eZ q l 0=eZ q (l.drop m) m) (fun m=>l.length - m) (0) ?_;intro e0 σ0 n0 h0;simp(disch:=try exact dI) only[push_cast,seval] at h0;obtain⟨rfl,rfl,rfl⟩:=h0;refine⟨?_,?_,?_⟩
 ·exact qsZ
 ·exact⟨by omega,by simp⟩
 ·rintro m ⟨hm,he⟩
  by_cases hlt:m<l.length
  ·have hltI:(m:Int)<l.length:=by omega
   obtain⟨x,hx⟩:∃ x,l[m]? = some x:=⟨_,List.getElem?_eq_getElem hlt⟩
   have hcall:=hq x
   simp(disch:=try exact dI) only[hx,TFd.cells_len,TFd.isAgg,push_cast,seval]
   refine ab.lentK hcall [0] rfl qsZ qsZ ?_
   cases hqx:q x with
   | true=>
     rw[he,fq hx hqx]
     refine zgZ ?_
     exact aE [] qsZ
   | false=>
     rw[dG hx hqx] at he
     refine zgZ ?_
     exact⟨m+1,aK qsZ,⟨by omega,he⟩,by omega⟩
  ·have hltI:¬ (m:Int)<l.length:=by omega
   rw[he,ft hlt]
   refine zgZ ?_
   exact aE [] qsZ
theorem tF (l:List TFd)(hl:l.length<=1000000000) :
  bF Tryz.prog aq 1 96 [.pv (.list (l.map TFd.pv)),.clo 241 [] [.ptr 0 0]] [.cells 98 true (eQ n nm nd k m M s w e fs d)] (.pv (.bool (l.any (jv n nm)))) [.cells 98 true (eQ n nm nd k m M s w e fs d)]:=by
 have h94:=DM n nm nd k m M s w e fs d l hl
 have hfa:=io (p:=jv n nm) l
 simp only[eQ] at h94 ⊢
 refine bF.intro Q96.2 (by simp[Q96]) ?_
 rcases ck (p:=jv n nm) l 0 with ⟨h1,h2⟩ | ⟨k,x,h1,h2,h3⟩
 ·rw[h2] at h94
  rw[h1] at hfa
  rw[<- hfa]
  simp(disch:=try exact dI) only[Q96,push_cast,seval]
  refine ab.lentK h94 [0] rfl qsZ qsZ ?_
  refine zgZ ?_
  exact aE [] (by simp(disch:=try exact dI) only[Option.isSome_none,push_cast,seval])
 ·rw[h3] at h94
  rw[h2] at hfa
  rw[<- hfa]
  have hk:(0:Int)<=((0+k:Nat):Int):=by omega
  generalize ((0+k:Nat):Int)=z at *
  simp(disch:=try exact dI) only[Q96,push_cast,seval]
  refine ab.lentK h94 [0] rfl qsZ qsZ ?_
  refine zgZ ?_
  exact aE [] (by simp(disch:=try exact dI) only[Option.isSome_some,push_cast,seval])
end
def cL (k:Int)(before:List TFd):TFd->Int
 | .mk n nm nd _ d=>if bN nm=false then 12 else if inB n 1 9999=false then 2 else if before.any (jv n nm)=true then 7 else if inB nd 1 3=false then 11 else if k=10/\¬ nd=1 then 11
   else if nd=3/\d.length=0 then 4 else if 1<d.length then 3 else if ¬ nd=3/\0<d.length then 3 else 0
theorem Jd (k m M s:Int)(w:List (List UInt8))(e:List Typ)(fs:List TFd)(hl:fs.length<=1000000000)(i:Nat)(g:TFd)(hg:fs[i]? = some g) :
  ak Tryz.prog aq 191 [(Typ.mk k m M s w e fs).pv,.int .i64 (i:Int)] (.int .i64 (cL k (fs.take i) g)):=by
 obtain⟨n,nm,nd,⟨k',m',M',s',w',e',f'⟩,d⟩:=g
 have hlt:i<fs.length:=by
  rcases Nat.lt_or_ge i fs.length with h | h
  ·exact h
  ·rw[List.getElem?_eq_none h] at hg;cases hg
 have hfp:(fs.map TFd.pv)[i]? = some (TFd.mk n nm nd (.mk k' m' M' s' w' e' f') d).pv:=by simp[hg]
 have hn:=sL nm
 have hi1:=qC n 1 9999
 have hi2:=qC nd 1 3
 have hc:=tF n nm nd k' m' M' s' w' e' f' d (fs.take i) (by simp;omega)
 rw[List.map_take] at hc
 simp only[eQ] at hc
 simp only[cL]
 generalize (fs.take i).any (jv n nm)=q at hc ⊢
 refine ak.intro OA.2 (by simp[OA]) ?_
 generalize bN nm=b1 at hn ⊢
 generalize inB n 1 9999=b2 at hi1 ⊢
 generalize inB nd 1 3=b3 at hi2 ⊢
 simp(disch:=try exact dI) only[OA,Typ.pv_mk,TFd.pv_mk,hg,Option.map_some,push_cast,seval]
 refine ab.pure hn rfl ?_
 cases b1 with
 | false=>simp(disch:=try exact dI) only[push_cast,seval]
 | true=>
 refine zgZ ?_
 refine ab.pure hi1 rfl ?_
 cases b2 with
 | false=>simp(disch:=try exact dI) only[push_cast,seval]
 | true=>
 refine zgZ ?_
 refine ab.lentK hc [3] rfl qsZ qsZ ?_
 cases q with
 | true=>simp(disch:=try exact dI) only[push_cast,seval]
 | false=>
 refine zgZ ?_
 refine ab.pure hi2 rfl ?_
 cases b3 with
 | false=>simp(disch:=try exact dI) only[push_cast,seval]
 | true=>
 by_cases hk:k=10/\¬ nd=1
 ·obtain⟨hk,hnd⟩:=hk
  subst hk
  rw[if_pos (show (10:Int)=10/\¬ nd=1 from⟨rfl,hnd⟩)]
  simp(disch:=try exact dI) only[hnd,push_cast,seval]
 rw[if_neg hk]
 have hfin:∀ (x:Int),x=(if nd=3/\d.length=0 then (4:Int) else if 1<d.length then 3 else if ¬ nd=3/\0<d.length then 3 else 0)->x=4/\nd=3/\d.length=0\/x=3/\1<d.length\/x=3/\¬ nd=3/\d.length=1\/x=0/\nd=3/\d.length=1\/x=0/\¬ nd=3/\d.length=0:=by
  intro x hx
  split at hx
  ·omega
  ·split at hx
   ·omega
   ·split at hx<;>omega
 obtain⟨x,hx⟩:∃ x,x=(if nd=3/\d.length=0 then (4:Int) else if 1<d.length then 3 else if ¬ nd=3/\0<d.length then 3 else 0):=⟨_,rfl⟩
 have hc5:=hfin x hx
 rw[<- hx]
 clear hfin hx
 have hk':k=10/\nd=1\/¬ k=10:=by
  by_cases h:k=10
  ·exact .inl ⟨h,Decidable.byContradiction fun hh=>hk ⟨h,hh⟩⟩
  ·exact .inr h
 clear hk
 rcases hc5 with ⟨rfl,rfl,h0⟩ | ⟨rfl,h1⟩ | ⟨rfl,hnd,h0⟩ | ⟨rfl,rfl,h0⟩ | ⟨rfl,hnd,h0⟩
 ·rcases hk' with ⟨_,hh⟩ | hk
  ·exact absurd hh (by decide)
  ·have h0I:(d.length:Int)=0:=by omega
   simp(disch:=try exact dI) only[hk,h0I,push_cast,seval]
 ·have h0I:¬ (d.length:Int)=0:=by omega
  have h1I:(1:Int)<d.length:=by omega
  rcases hk' with ⟨rfl,rfl⟩ | hk
  ·simp(disch:=try exact dI) only[h0I,h1I,push_cast,seval]
  ·by_cases hnd:nd=3
   ·simp(disch:=try exact dI) only[hk,hnd,h0I,h1I,push_cast,seval]
   ·simp(disch:=try exact dI) only[hk,hnd,h0I,h1I,push_cast,seval]
 ·have h0I:(d.length:Int)=1:=by omega
  rcases hk' with ⟨rfl,rfl⟩ | hk
  ·simp(disch:=try exact dI) only[h0I,push_cast,seval]
  ·simp(disch:=try exact dI) only[hk,hnd,h0I,push_cast,seval]
 ·have h0I:(d.length:Int)=1:=by omega
  rcases hk' with ⟨_,hh⟩ | hk
  ·exact absurd hh (by decide)
  ·simp(disch:=try exact dI) only[hk,h0I,push_cast,seval]
 ·have h0I:(d.length:Int)=0:=by omega
  rcases hk' with ⟨rfl,rfl⟩ | hk
  ·simp(disch:=try exact dI) only[h0I,push_cast,seval]
  ·simp(disch:=try exact dI) only[hk,hnd,h0I,push_cast,seval]
end Go.Proofs.YtbaaokocnegdoaaGreatDoor
