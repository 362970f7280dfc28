/- A part. -/
import Derived.Test.YtbaaokocnegdoaaGreatDoorEnVR4
set_option linter.unusedVariables false
set_option linter.unusedSimpArgs false
set_option maxHeartbeats 16000000
set_option maxRecDepth 100000
open List renaming getElem?_eq_some_iff->Vh,drop_eq_getElem_cons->V7,length_map->Vv,drop_length->We,getElem?_eq_getElem->Vg,map_nil->Vo
open Int renaming add_sub_cancel->VD
namespace Go.Proofs.YtbaaokocnegdoaaGreatDoor
open Go Go.Ab
attribute [local irreducible] vc
def bc (i:Nat)(q:Int×Val):Int:=
 if 4096<=i then 9 else if 8<q.1 then 23 else if bw q.2=true then 19 else if q.2.kind<1\/10<q.2.kind then 11 else if bn q.2=false then 3 else be q.2
section
variable {i:Nat}{q:Int×Val}
theorem Lv (c1:¬ 4096<=i)(c2:8<q.1):bc i q=23:=by unfold bc;rw[if_neg c1,if_pos c2]
theorem Lu (c1:¬ 4096<=i)(c2:¬ 8<q.1)(c3:bw q.2=true):bc i q=19:=by unfold bc;rw[if_neg c1,if_neg c2,if_pos c3]
theorem Lt (c1:¬ 4096<=i)(c2:¬ 8<q.1)(c3:bw q.2=false)(c4:q.2.kind<1\/10<q.2.kind):bc i q=11:=by unfold bc;rw[if_neg c1,if_neg c2,if_neg (by rw[c3];simp),if_pos c4]
theorem Ls (c1:¬ 4096<=i)(c2:¬ 8<q.1)(c3:bw q.2=false)(c4:¬ (q.2.kind<1\/10<q.2.kind))(c5:bn q.2=false):bc i q=3:=by unfold bc;rw[if_neg c1,if_neg c2,if_neg (by rw[c3];simp),if_neg c4,if_pos c5]
theorem BK (c1:¬ 4096<=i)(c2:¬ 8<q.1)(c3:bw q.2=false)(c4:¬ (q.2.kind<1\/10<q.2.kind))(c5:bn q.2=true):bc i q=be q.2:=by unfold bc;rw[if_neg c1,if_neg c2,if_neg (by rw[c3];simp),if_neg c4,if_neg (by rw[c5];simp)]
end
def jg:Nat->List (Int×Val)->Int
 | _,[]=>0
 | i,q::r=>if bc i q=0 then jg (i+1) r else bc i q
def LO (k:Int):Nat:=if k=1 then 268 else if k=2 then 270 else if k=3 then 271 else if k=4 then 273 else if k=5 then 275 else if k=6 then 276 else if k=7 then 277 else if k=8 then 278 else if k=9 then 279 else 280
theorem LN (v:Val)(h:1<=v.kind/\v.kind<=10):ae Tryz.prog aq (LO v.kind) [v.pv] (.int .i64 (be v)):=by
 have hc:v.kind=1\/v.kind=2\/v.kind=3\/v.kind=4\/v.kind=5\/v.kind=6\/v.kind=7\/v.kind=8\/v.kind=9\/v.kind=10:=by omega
 rcases hc with h | h | h | h | h | h | h | h | h | h<;>rw[h]
 ·exact LZ v h
 ·exact LY v h
 ·exact LX v h
 ·exact LW v h
 ·exact LV v h
 ·exact LU v h
 ·exact LS v h
 ·exact LR v h
 ·exact LQ v h
 ·exact LP v h
theorem lJ {n sz r o:Nat}{k:IntKind}{i:Int}(h0:0<=i)(h1:i.toNat<n):ju n sz (.ptr r o) (.pv (.int k i))=some (.ptr r (o+i.toNat*sz)):=if_pos ⟨h0,h1⟩
theorem Lf (x:Val)(h:1<=x.kind/\x.kind<=10):ae Tryz.prog aq 244 [x.pv] (.bool (bn x)):=Ld x h
theorem NF {xs:List (Int×Val)}{i:Nat}{q:Int×Val}(h:xs[i]? = some q):jg i (xs.drop i)=if bc i q=0 then jg (i+1) (xs.drop (i+1)) else bc i q:=by
 have hi:i<xs.length:=(Vh.1 h).1
 have he:xs[i]=q:=(Vh.1 h).2
 rw[V7 hi,he,jg]
theorem wH (n:Nat)(v:Val)(hd:cL n v)(hv:v.ok)(hn:n<=9223372036854775806):ae Tryz.prog aq 192 [v.pv] (.int .i64 (jg 0 (ck n 1 v))):=by
 have hseq:=jS n v hd hv hn
 have h243:=lL v
 have h242:=GU
 generalize hxs:ck n 1 v=xs at *
 obtain⟨R,hR⟩:∃ R,R=jg 0 xs:=⟨_,rfl⟩
 rw[<- hR]
 obtain⟨k,a,s,t,l,fs⟩:=v
 simp only[Vf,BY] at h243 h242 hseq
 refine ae.intro Ug.2 (by simp[Ug]) ?_
 simp(disch:=try exact dI) only[Ug,Vf,push_cast,seval]
 refine ab.pure h242 rfl ?_
 simp(disch:=try exact dI) only[C8,vF,push_cast,seval]
 refine ab.pure h243 rfl ?_
 refine zgZ ?_
 refine JO ([]) (fun i:Nat=>[]) (fun i:Nat=>[(2,.cells 3 true [.pv (.int .i64 (i:Int))])]) (fun j i=>j=i/\i<=4096/\R=jg i (xs.drop i)) (0) (hseq) ?_;intro e0 σ0 n0 h0;simp(disch:=try exact dI) only[push_cast,seval] at h0;obtain⟨rfl,rfl,rfl⟩:=h0;refine⟨?_,?_,?_,?_,?_⟩
 ·exact qsZ
 ·exact⟨rfl,by omega,by simpa using hR⟩
 ·rfl
 ·rintro j i y hy ⟨hij,hj4,hr⟩
  subst hij
  obtain⟨q,hq⟩:∃ q,xs[j]? = some q:=by
   cases h:xs[j]? with
   | none=>simp[h] at hy
   | some q=>exact⟨q,rfl⟩
  have hye:y=AQ q:=by simpa[hq] using hy.symm
  subst hye
  rw[NF hq] at hr
  have hjl:j<xs.length:=(Vh.1 hq).1
  obtain⟨lv,x⟩:=q
  have h111:=tt x
  have hrule:=LN x
  have huse:=Lf x
  obtain⟨k',n',s',t',l',f'⟩:=x
  simp only[Vf,Val.kind] at h111 hrule huse
  refine⟨rfl,?_⟩
  simp only[AQ,Vf]
  clear hy h242 h243 hseq
  by_cases c1:4096<=j
  ·have e:bc j (lv,Val.mk k' n' s' t' l' f')=9:=if_pos c1
   rw[e,if_neg (by omega)] at hr
   subst hr
   exact qsZ
  ·have hj1:¬ (4096:Int)<(j:Int)+1:=by omega
   by_cases c2:8<lv
   ·have e:bc j (lv,Val.mk k' n' s' t' l' f')=23:=Lv c1 c2
    rw[e,if_neg (by omega)] at hr
    subst hr
    exact qsZ
   ·cases c3:bw (Val.mk k' n' s' t' l' f') with
    | true=>
      have e:bc j (lv,Val.mk k' n' s' t' l' f')=19:=Lu c1 c2 c3
      rw[e,if_neg (by omega)] at hr
      subst hr
      rw[c3] at h111
      refine zgZ ?_
      refine ab.pure h111 rfl ?_
      exact qsZ
    | false=>
      rw[c3] at h111
      by_cases c4:k'<1\/10<k'
      ·have e:bc j (lv,Val.mk k' n' s' t' l' f')=11:=Lt c1 c2 c3 c4
       rw[e,if_neg (by omega)] at hr
       subst hr
       rcases c4 with c4 | c4
       ·refine zgZ ?_
        refine ab.pure h111 rfl ?_
        exact qsZ
       ·refine zgZ ?_
        refine ab.pure h111 rfl ?_
        exact qsZ
      ·have huse:=huse (by omega)
       have hrule:=hrule (by omega)
       cases c5:bn (Val.mk k' n' s' t' l' f') with
       | false=>
         have e:bc j (lv,Val.mk k' n' s' t' l' f')=3:=Ls c1 c2 c3 c4 c5
         rw[e,if_neg (by omega)] at hr
         subst hr
         rw[c5] at huse
         refine zgZ ?_
         refine ab.pure h111 rfl ?_
         refine zgZ ?_
         refine ab.pure huse rfl ?_
         exact qsZ
       | true=>
         have e:bc j (lv,Val.mk k' n' s' t' l' f')=be (Val.mk k' n' s' t' l' f'):=BK c1 c2 c3 c4 c5
         rw[e] at hr
         rw[c5] at huse
         generalize be (Val.mk k' n' s' t' l' f')=z at hr hrule
         have hkc:([AV.pv PV.nilf,AV.pv (PV.clo 268 [] []),AV.pv (PV.clo 270 [] []),AV.pv (PV.clo 271 [] []),AV.pv (PV.clo 273 [] []),AV.pv (PV.clo 275 [] []),AV.pv (PV.clo 276 [] []),AV.pv (PV.clo 277 [] []),AV.pv (PV.clo 278 [] []),AV.pv (PV.clo 279 [] []),AV.pv (PV.clo 280 [] [])]:List AV)[k'.toNat*1]? = some (.pv (.clo (LO k') [] [])):=by
          have hc:k'=1\/k'=2\/k'=3\/k'=4\/k'=5\/k'=6\/k'=7\/k'=8\/k'=9\/k'=10:=by omega
          rcases hc with h | h | h | h | h | h | h | h | h | h<;>rw[h]<;>rfl
         generalize LO k'=rf at hkc hrule
         by_cases hz:z=0
         ·rw[if_pos hz] at hr
          subst hz
          refine zgZ ?_
          refine ab.pure h111 rfl ?_
          refine zgZ ?_
          refine ab.pure huse rfl ?_
          simp(disch:=try exact dI) only[lJ,hkc,push_cast,seval]
          refine ab.pure hrule rfl ?_
          refine zgZ ?_
          exact⟨j+1,aI qsZ,rfl,by omega,hr⟩
         ·rw[if_neg hz] at hr
          subst hr
          refine zgZ ?_
          refine ab.pure h111 rfl ?_
          refine zgZ ?_
          refine ab.pure huse rfl ?_
          simp(disch:=try exact dI) only[lJ,hkc,push_cast,seval]
          refine ab.pure hrule rfl ?_
          exact qsZ
 ·rintro j ⟨hj,hj4,hr⟩
  simp only[Vv] at hj
  subst hj
  rw[We] at hr
  rw[show R=0 from hr]
  exact qsZ
theorem Lz (n:Nat)(v:Val)(hd:cL n v)(hv:v.ok)(hn:n<=9223372036854775806)(hs:(ck n 1 v).length<=9223372036854775806):ae Tryz.prog aq 194 [v.pv] (.int .i64 ((ck n 1 v).length:Int)):=by
 have hseq:=jS n v hd hv hn
 have h243:=lL v
 generalize hxs:ck n 1 v=xs at *
 obtain⟨k,a,s,t,l,fs⟩:=v
 simp only[Vf] at h243 hseq
 refine ae.intro Uf.2 (by simp[Uf]) ?_
 simp(disch:=try exact dI) only[Uf,Vf,push_cast,seval]
 refine ab.pure h243 rfl ?_
 refine zgZ ?_
 refine JO ([]) (fun i:Nat=>[]) (fun i:Nat=>[(0,.cells 3 true [.pv (.int .i64 (i:Int))])]) (fun j i=>j=i/\i<=xs.length) (0) (hseq) ?_;intro e0 σ0 n0 h0;simp(disch:=try exact dI) only[push_cast,seval] at h0;obtain⟨rfl,rfl,rfl⟩:=h0;refine⟨?_,?_,?_,?_,?_⟩
 ·exact qsZ
 ·exact⟨rfl,by omega⟩
 ·rfl
 ·rintro j i y hy ⟨hij,hi⟩
  subst hij
  have hjl:j<xs.length:=by
   have:=(Vh.1 hy).1
   simpa using this
  obtain⟨q,hq⟩:∃ q,xs[j]? = some q:=⟨_,Vg hjl⟩
  have hye:y=AQ q:=by simpa[hq] using hy.symm
  subst hye
  obtain⟨lv,⟨k',n',s',t',l',f'⟩⟩:=q
  refine⟨rfl,?_⟩
  simp only[AQ,Vf]
  clear hy h243 hseq
  refine zgZ ?_
  exact⟨j+1,aI qsZ,rfl,by omega⟩
 ·rintro j ⟨hj,hi⟩
  simp only[Vv] at hj
  subst hj
  exact qsZ
def inB (n a b:Int):Bool:=decide (a<=n)&&decide (n<=b)
theorem rn (n a b:Int):ae Tryz.prog aq 187 [.int .i64 n,.int .i64 a,.int .i64 b] (.bool (inB n a b)):=by
 refine ae.intro N7.2 (by simp[N7]) ?_
 by_cases h1:a<=n
 ·by_cases h2:n<=b
  ·rw[show inB n a b=true by simp[inB,h1,h2]]
   simp(disch:=try exact dI) only[N7,push_cast,seval]
  ·rw[show inB n a b=false by simp[inB,h2]]
   simp(disch:=try exact dI) only[N7,push_cast,seval]
 ·rw[show inB n a b=false by simp[inB,h1]]
  simp(disch:=try exact dI) only[N7,push_cast,seval]
theorem mj (n a b:Int):ae Tryz.prog aq 195 [.int .i64 n,.int .i64 a,.int .i64 b] (.bool (inB n a b)):=by
 refine ae.intro RH.2 (by simp[RH]) ?_
 by_cases h1:a<=n
 ·by_cases h2:n<=b
  ·rw[show inB n a b=true by simp[inB,h1,h2]]
   simp(disch:=try exact dI) only[RH,push_cast,seval]
  ·rw[show inB n a b=false by simp[inB,h2]]
   simp(disch:=try exact dI) only[RH,push_cast,seval]
 ·rw[show inB n a b=false by simp[inB,h1]]
  simp(disch:=try exact dI) only[RH,push_cast,seval]
def lim (nm:List UInt8)(lo hi:Int)(b1 b2 b3 b4 b5:Bool):PV:=.agg [.str nm,.int .i64 lo,.int .i64 hi,.bool b1,.bool b2,.bool b3,.bool b4,.bool b5]
def jD (b1 b2 b3 b4 b5:Bool):Typ->Bool
 | .mk k m M s w e f=>(!b1&&!(decide (m=0)&&decide (M=0)))||((!b2&&!decide (s=0))||((!b3&&!decide (w.length=0))||((!b4&&!decide (e.length=0))||(!b5&&!decide (f.length=0)))))
theorem DE (b:Bool)(n:Nat):(b=false/\(0:Int)<(n:Int)/\¬ n=0)\/(b=false/\¬ (0:Int)<(n:Int)/\n=0)\/b=true:=by
 cases b<;>by_cases h:n=0<;>simp[h];omega
theorem Na (k m M s:Int)(w:List (List UInt8))(e:List Typ)(f:List TFd)(nm:List UInt8)(lo hi:Int)(b1 b2 b3 b4 b5:Bool):ae Tryz.prog aq 189 [(Typ.mk k m M s w e f).pv,lim nm lo hi b1 b2 b3 b4 b5] (.int .i64 (if jD b1 b2 b3 b4 b5 (.mk k m M s w e f)=true then 3 else 0)):=by
 obtain⟨r,hr⟩:∃ r,r=jD b1 b2 b3 b4 b5 (.mk k m M s w e f):=⟨_,rfl⟩
 rw[<- hr]
 refine ae.intro RI.2 (by simp[RI]) ?_
 have h1:(b1=false/\¬ m=0)\/(b1=false/\m=0/\¬ M=0)\/(b1=false/\m=0/\M=0)\/b1=true:=by cases b1<;>simp<;>omega
 have h2:(b2=false/\¬ s=0)\/(b2=false/\s=0)\/b2=true:=by cases b2<;>simp<;>omega
 have h3:=DE b3 w.length
 have h4:=DE b4 e.length
 have h5:=DE b5 f.length
 rcases h1 with ⟨rfl,a⟩ | ⟨rfl,a,b⟩ | ⟨rfl,a,b⟩ | rfl
 all_goals first | (have:=hend;skip) | (refine aQ (c:=true) hr ?_ ?_;(focus (simp[jD, *];done));rintro rfl;have hend:=trivial;clear h2 h3 h4 h5) | rcases h2 with ⟨rfl,a2⟩ | ⟨rfl,a2⟩ | rfl
 all_goals first | (have:=hend;skip) | (refine aQ (c:=true) hr ?_ ?_;(focus (simp[jD, *];done));rintro rfl;have hend:=trivial;clear h3 h4 h5) | rcases h3 with ⟨rfl,a3,c3⟩ | ⟨rfl,a3,c3⟩ | rfl
 all_goals first | (have:=hend;skip) | (refine aQ (c:=true) hr ?_ ?_;(focus (simp[jD, *];done));rintro rfl;have hend:=trivial;clear h4 h5) | rcases h4 with ⟨rfl,a4,c4⟩ | ⟨rfl,a4,c4⟩ | rfl
 all_goals first | (have:=hend;skip) | (refine aQ (c:=true) hr ?_ ?_;(focus (simp[jD, *];done));rintro rfl;have hend:=trivial;clear h5) | rcases h5 with ⟨rfl,a5,c5⟩ | ⟨rfl,a5,c5⟩ | rfl
 all_goals first | (have:=hend;skip) | (refine aQ (c:=true) hr ?_ ?_;(focus (simp[jD, *];done));rintro rfl) | (refine aQ (c:=false) hr ?_ ?_;(focus (simp[jD, *];done));rintro rfl)
 all_goals clear hr
 all_goals simp(disch:=try exact dI) only[RI,Vd,lim, *,push_cast,seval]
def dH (w:List UInt8):Val:=.mk 4 0 0 w [] []
def m9 (w:List UInt8):Int:=if dm w.length 1024 5=0 then (if Lib.validD w=true then 0 else 16) else dm w.length 1024 5
theorem Ll (w:List UInt8):ae Tryz.prog aq 239 [.str w] (dH w).pv:=by
 refine ae.intro Uc.2 (by simp[Uc]) ?_
 simp only[dH,Vf,Vo]
 simp(disch:=try exact dI) only[Uc,push_cast,seval]
theorem CP (w:List UInt8):ck 1 1 (dH w)=[(1,dH w)]:=by
 simp[ck,aX,dH,Val.kind]
theorem wE (w:List UInt8):jg 0 (ck 1 1 (dH w))=m9 w:=by
 rw[CP,jg,BK (by omega) (by simp) (by simp[bw,dH]) (by simp[dH,Val.kind]) (by simp[bn,dH])]
 simp only[jg]
 have e:be (dH w)=m9 w:=rfl
 rw[e]
 split
 ·rename_i h;exact h.symm
 ·rfl
theorem E4 (w:List UInt8)(hw:w.length<=140737488351232):ae Tryz.prog aq 192 [(dH w).pv] (.int .i64 (m9 w)):=by
 have:=wH 1 (dH w) (by simp[cL,aX,dH,Val.kind]) (by simp[dH,Ve,I64,hw]) (by omega)
 rw[wE] at this
 exact this
def fD:Option (List UInt8)->List (List UInt8)->Int
 | _,[]=>0
 | p,w::r=>if m9 w=0 then (if p=some w then 7 else if (p.any fun q=>bg w q)=true then 24 else fD (some w) r) else m9 w
theorem kU {ws:List (List UInt8)}{i:Nat}{w:List UInt8}(h:ws[i]? = some w)(p:Option (List UInt8)):fD p (ws.drop i)=if m9 w=0 then (if p=some w then 7 else if (p.any fun q=>bg w q)=true then 24 else fD (some w) (ws.drop (i+1))) else m9 w:=by
 have hi:i<ws.length:=(Vh.1 h).1
 have he:ws[i]=w:=(Vh.1 h).2
 rw[V7 hi,he,fD]
def iB (ws:List (List UInt8))(i:Nat):Option (List UInt8):=if i=0 then none else ws[i - 1]?
def bH (m M:Int)(ws:List (List UInt8)):Int:=if ¬ (m=0/\M=0) then 3 else if 64<ws.length then 9 else fD none ws
theorem F8 (k m M s:Int)(ws:List (List UInt8))(e:List Typ)(f:List TFd)(hw:∀ w∈ws,w.length<=140737488351232):ae Tryz.prog aq 190 [(Typ.mk k m M s ws e f).pv] (.int .i64 (bH m M ws)):=by
 refine ae.intro ON.2 (by simp[ON]) ?_
 by_cases hm:m=0
 ·by_cases hM:M=0
  ·by_cases h64:64<ws.length
   ·rw[show bH m M ws=9 by simp[bH,hm,hM,h64]]
    simp(disch:=try exact dI) only[ON,Vd,hm,hM,push_cast,seval]
   ·rw[show bH m M ws=fD none ws by simp[bH,hm,hM,h64]]
    obtain⟨R,hR⟩:∃ R,R=fD none ws:=⟨_,rfl⟩
    rw[<- hR]
    simp(disch:=try exact dI) only[ON,Vd,hm,hM,push_cast,seval]
    refine ap ([]) (fun i:Nat=>[(23,.pv (.int .i64 (i:Int)))]) (fun _=>[]) (fun i=>i<=ws.length/\R=fD (iB ws i) (ws.drop i)) (fun i=>ws.length - i) (0) ?_;intro e0 σ0 n0 h0;simp(disch:=try exact dI) only[push_cast,seval] at h0;obtain⟨rfl,rfl,rfl⟩:=h0;refine⟨?_,?_,?_⟩
    ·exact qsZ
    ·exact⟨by omega,by simpa[iB] using hR⟩
    rintro i ⟨hi,hr⟩
    by_cases hlt:i<ws.length
    ·have hltI:(i:Int)<(ws.length:Int):=by omega
     obtain⟨w,hwi⟩:∃ w,ws[i]? = some w:=⟨_,Vg hlt⟩
     have hcp:(ws.map PV.str)[i]? = some (.str w):=by simp[hwi]
     have ht:=Ll w
     have hc:=E4 w (hw w (List.mem_of_getElem? hwi))
     simp only[dH,Vf,Vo] at ht hc
     rw[kU hwi] at hr
     have hnext:iB ws (i+1)=some w:=by simp[iB,hwi]
     generalize m9 w=z at hc hr
     by_cases hz:z=0
     ·subst hz
      rw[if_pos rfl] at hr
      by_cases hi0:i=0
      ·have hiI:¬ (0:Int)<(i:Int):=by omega
       have hpn:iB ws i=none:=if_pos hi0
       rw[hpn,if_neg (by simp),if_neg (by simp),<- hnext] at hr
       simp(disch:=try exact dI) only[hcp,push_cast,seval]
       refine ab.pure ht rfl ?_
       refine zgZ ?_
       refine ab.pure hc rfl ?_
       refine zgZ ?_
       exact⟨i+1,aI qsZ,⟨by omega,hr⟩,by omega⟩
      ·obtain⟨j,rfl⟩:∃ j,i=j+1:=⟨i - 1,by omega⟩
       obtain⟨q,hq'⟩:∃ q,ws[j]? = some q:=⟨_,Vg (by omega)⟩
       have hpn:iB ws (j+1)=some q:=by simp[iB,hq']
       have hcq:(ws.map PV.str)[j]? = some (.str q):=by simp[hq']
       rw[hpn] at hr
       by_cases hq:w=q
       ·subst hq
        rw[if_pos rfl] at hr
        subst hr
        simp(disch:=try exact dI) only[hcp,VD,push_cast,seval]
        refine ab.pure ht rfl ?_
        refine zgZ ?_
        refine ab.pure hc rfl ?_
        simp(disch:=try exact dI) only[hcq,VD,push_cast,seval]
       ·rw[if_neg (by simpa using fun e=>hq e.symm)] at hr
        cases hlt2:bg w q with
        | true=>
          rw[if_pos (by simpa using hlt2)] at hr
          subst hr
          simp(disch:=try exact dI) only[hcp,VD,push_cast,seval]
          refine ab.pure ht rfl ?_
          refine zgZ ?_
          refine ab.pure hc rfl ?_
          simp(disch:=try exact dI) only[hcq,VD,hq,hlt2,push_cast,seval]
        | false=>
          rw[if_neg (by simp[hlt2]),<- hnext] at hr
          simp(disch:=try exact dI) only[hcp,VD,push_cast,seval]
          refine ab.pure ht rfl ?_
          refine zgZ ?_
          refine ab.pure hc rfl ?_
          simp(disch:=try exact dI) only[hcq,VD,hq,hlt2,push_cast,seval]
          exact⟨j+1+1,aI qsZ,⟨by omega,hr⟩,by omega⟩
     ·rw[if_neg hz] at hr
      subst hr
      simp(disch:=try exact dI) only[hcp,push_cast,seval]
      refine ab.pure ht rfl ?_
      refine zgZ ?_
      refine ab.pure hc rfl ?_
      exact qsZ
    ·have hie:i=ws.length:=by omega
     subst hie
     rw[We] at hr
     rw[show R=0 from hr]
     exact qsZ
  ·rw[show bH m M ws=3 by simp[bH,hM]]
   simp(disch:=try exact dI) only[ON,Vd,hm,hM,push_cast,seval]
 ·rw[show bH m M ws=3 by simp[bH,hm]]
  simp(disch:=try exact dI) only[ON,Vd,hm,push_cast,seval]
def j1 (n:Int)(nm:List UInt8)(g:TFd):Bool:=decide (g.name=nm)||decide (g.number=n)
def fq (n:Int)(nm:List UInt8)(nd k m M s:Int)(w:List (List UInt8))(e:List Typ)(fs:List TFd)(d:List Val):List AV:=
 [.pv (.int .i64 n),.pv (.str nm),.pv (.int .i64 nd),.pv (.int .i64 k),.pv (.int .i64 m),.pv (.int .i64 M),.pv (.int .i64 s),.pv (.list (w.map PV.str)),.pv (.list (e.map Typ.pv)),.pv (.list (fs.map TFd.pv)),.pv (.list (d.map Val.pv))]
section
variable (n:Int)(nm:List UInt8)(nd k m M s:Int)(w:List (List UInt8))(e:List Typ)(fs:List TFd)(d:List Val)
theorem Qy (g:TFd):bk Tryz.prog aq 1 241 [.pv g.pv,.ptr 0 0] [.cells 98 true (fq n nm nd k m M s w e fs d)] (.pv (.bool (j1 n nm g))) [.cells 98 true (fq n nm nd k m M s w e fs d)]:=by
 obtain⟨n',nm',nd',⟨k',m',M',s',w',e',fs'⟩,d'⟩:=g
 by_cases h1:nm'=nm
 ·rw[show j1 n nm (TFd.mk n' nm' nd' (Typ.mk k' m' M' s' w' e' fs') d')=true by simp[j1,TFd.name,h1]]
  refine bk.intro FM.2 (by simp[FM]) ?_
  simp(disch:=try exact dI) only[FM,U7,Vd,h1,fq,push_cast,seval]
  exact aC [] qsZ
 ·by_cases h2:n'=n
  ·rw[show j1 n nm (TFd.mk n' nm' nd' (Typ.mk k' m' M' s' w' e' fs') d')=true by simp[j1,TFd.number,h2]]
   refine bk.intro FM.2 (by simp[FM]) ?_
   simp(disch:=try exact dI) only[FM,U7,Vd,h1,h2,fq,push_cast,seval]
   exact aC [] qsZ
  ·rw[show j1 n nm (TFd.mk n' nm' nd' (Typ.mk k' m' M' s' w' e' fs') d')=false by simp[j1,TFd.name,TFd.number,h1,h2]]
   refine bk.intro FM.2 (by simp[FM]) ?_
   simp(disch:=try exact dI) only[FM,U7,Vd,h1,h2,fq,push_cast,seval]
   exact aC [] qsZ
end
section
variable (n:Int)(nm:List UInt8)(nd k m M s:Int)(w:List (List UInt8))(e:List Typ)(fs:List TFd)(d:List Val)
theorem DX (l:List TFd)(hl:l.length<=1000000000) :
  bk Tryz.prog aq 1 147 [.pv (.list (l.map TFd.pv)),.clo 241 [] [.ptr 0 0]] [.cells 98 true (fq n nm nd k m M s w e fs d)] (.pv (.int .i64 (fB (j1 n nm) l 0))) [.cells 98 true (fq n nm nd k m M s w e fs d)]:=by
 have hq:=fun x=>Qy n nm nd k m M s w e fs d x
 generalize j1 n nm=q at *
 simp only[fq] at hq ⊢
 refine bk.intro KR.2 (by simp[KR]) ?_
 simp(disch:=try exact dI) only[KR,push_cast,seval]
 refine ap ([]) (fun m:Nat=>[(8,.pv (.int .i64 (m:Int)))]) (fun m=>[]) (fun m=>m<=l.length/\fB q l 0=fB q (l.drop m) m) (fun m=>l.length - m) (0) ?_;intro e0 σ0 n0 h0;simp(disch:=try exact dI) only[push_cast,seval] at h0;obtain⟨rfl,rfl,rfl⟩:=h0;refine⟨?_,?_,?_⟩
 ·exact qsZ
 ·exact⟨by omega,by simp⟩
 ·rintro m ⟨hm,he⟩
  by_cases hlt:m<l.length
  ·have hltI:(m:Int)<l.length:=by omega
   obtain⟨x,hx⟩:∃ x,l[m]? = some x:=⟨_,Vg hlt⟩
   have hcall:=hq x
   simp(disch:=try exact dI) only[hx,TFd.cells_len,TFd.isAgg,push_cast,seval]
   refine ab.lentK hcall [0] rfl qsZ qsZ ?_
   cases hqx:q x with
   | true=>
     rw[he,fN hx hqx]
     refine zgZ ?_
     exact aC [] qsZ
   | false=>
     rw[dR hx hqx] at he
     refine zgZ ?_
     exact⟨m+1,aI qsZ,⟨by omega,he⟩,by omega⟩
  ·have hltI:¬ (m:Int)<l.length:=by omega
   rw[he,fO hlt]
   refine zgZ ?_
   exact aC [] qsZ
theorem ug (l:List TFd)(hl:l.length<=1000000000) :
  bk Tryz.prog aq 1 96 [.pv (.list (l.map TFd.pv)),.clo 241 [] [.ptr 0 0]] [.cells 98 true (fq n nm nd k m M s w e fs d)] (.pv (.bool (l.any (j1 n nm)))) [.cells 98 true (fq n nm nd k m M s w e fs d)]:=by
 have h94:=DX n nm nd k m M s w e fs d l hl
 have hfa:=iR (p:=j1 n nm) l
 simp only[fq] at h94 ⊢
 refine bk.intro Q96.2 (by simp[Q96]) ?_
 rcases bZ (p:=j1 n nm) l 0 with ⟨h1,h2⟩ | ⟨k,x,h1,h2,h3⟩
 ·rw[h2] at h94
  rw[h1] at hfa
  rw[<- hfa]
  simp(disch:=try exact dI) only[Q96,push_cast,seval]
  refine ab.lentK h94 [0] rfl qsZ qsZ ?_
  refine zgZ ?_
  exact aC [] (by simp(disch:=try exact dI) only[Option.isSome_none,push_cast,seval])
 ·rw[h3] at h94
  rw[h2] at hfa
  rw[<- hfa]
  have hk:(0:Int)<=((0+k:Nat):Int):=by omega
  generalize ((0+k:Nat):Int)=z at *
  simp(disch:=try exact dI) only[Q96,push_cast,seval]
  refine ab.lentK h94 [0] rfl qsZ qsZ ?_
  refine zgZ ?_
  exact aC [] (by simp(disch:=try exact dI) only[Option.isSome_some,push_cast,seval])
end
def dh (k:Int)(before:List TFd):TFd->Int
 | .mk n nm nd _ d=>if bP nm=false then 12 else if inB n 1 9999=false then 2 else if before.any (j1 n nm)=true then 7 else if inB nd 1 3=false then 11 else if k=10/\¬ nd=1 then 11
   else if nd=3/\d.length=0 then 4 else if 1<d.length then 3 else if ¬ nd=3/\0<d.length then 3 else 0
theorem IZ (k m M s:Int)(w:List (List UInt8))(e:List Typ)(fs:List TFd)(hl:fs.length<=1000000000)(i:Nat)(g:TFd)(hg:fs[i]? = some g) :
  ae Tryz.prog aq 191 [(Typ.mk k m M s w e fs).pv,.int .i64 (i:Int)] (.int .i64 (dh k (fs.take i) g)):=by
 obtain⟨n,nm,nd,⟨k',m',M',s',w',e',f'⟩,d⟩:=g
 have hlt:i<fs.length:=by
  rcases Nat.lt_or_ge i fs.length with h | h
  ·exact h
  ·rw[List.getElem?_eq_none h] at hg;cases hg
 have hfp:(fs.map TFd.pv)[i]? = some (TFd.mk n nm nd (.mk k' m' M' s' w' e' f') d).pv:=by simp[hg]
 have hn:=tA nm
 have hi1:=rn n 1 9999
 have hi2:=rn nd 1 3
 have hc:=ug n nm nd k' m' M' s' w' e' f' d (fs.take i) (by simp;omega)
 rw[List.map_take] at hc
 simp only[fq] at hc
 simp only[dh]
 generalize (fs.take i).any (j1 n nm)=q at hc ⊢
 refine ae.intro Of.2 (by simp[Of]) ?_
 generalize bP nm=b1 at hn ⊢
 generalize inB n 1 9999=b2 at hi1 ⊢
 generalize inB nd 1 3=b3 at hi2 ⊢
 simp(disch:=try exact dI) only[Of,Vd,U7,hg,Option.map_some,push_cast,seval]
 refine ab.pure hn rfl ?_
 cases b1 with
 | false=>simp(disch:=try exact dI) only[push_cast,seval]
 | true=>
 refine zgZ ?_
 refine ab.pure hi1 rfl ?_
 cases b2 with
 | false=>simp(disch:=try exact dI) only[push_cast,seval]
 | true=>
 refine zgZ ?_
 refine ab.lentK hc [3] rfl qsZ qsZ ?_
 cases q with
 | true=>simp(disch:=try exact dI) only[push_cast,seval]
 | false=>
 refine zgZ ?_
 refine ab.pure hi2 rfl ?_
 cases b3 with
 | false=>simp(disch:=try exact dI) only[push_cast,seval]
 | true=>
 by_cases hk:k=10/\¬ nd=1
 ·obtain⟨hk,hnd⟩:=hk
  subst hk
  rw[if_pos (show (10:Int)=10/\¬ nd=1 from⟨rfl,hnd⟩)]
  simp(disch:=try exact dI) only[hnd,push_cast,seval]
 rw[if_neg hk]
 have hfin:∀ (x:Int),x=(if nd=3/\d.length=0 then (4:Int) else if 1<d.length then 3 else if ¬ nd=3/\0<d.length then 3 else 0)->x=4/\nd=3/\d.length=0\/x=3/\1<d.length\/x=3/\¬ nd=3/\d.length=1\/x=0/\nd=3/\d.length=1\/x=0/\¬ nd=3/\d.length=0:=by
  intro x hx
  split at hx
  ·omega
  ·split at hx
   ·omega
   ·split at hx<;>omega
 obtain⟨x,hx⟩:∃ x,x=(if nd=3/\d.length=0 then (4:Int) else if 1<d.length then 3 else if ¬ nd=3/\0<d.length then 3 else 0):=⟨_,rfl⟩
 have hc5:=hfin x hx
 rw[<- hx]
 clear hfin hx
 have hk':k=10/\nd=1\/¬ k=10:=by
  by_cases h:k=10
  ·exact .inl ⟨h,Decidable.byContradiction fun hh=>hk ⟨h,hh⟩⟩
  ·exact .inr h
 clear hk
 rcases hc5 with ⟨rfl,rfl,h0⟩ | ⟨rfl,h1⟩ | ⟨rfl,hnd,h0⟩ | ⟨rfl,rfl,h0⟩ | ⟨rfl,hnd,h0⟩
 ·rcases hk' with ⟨_,hh⟩ | hk
  ·exact absurd hh (by decide)
  ·have h0I:(d.length:Int)=0:=by omega
   simp(disch:=try exact dI) only[hk,h0I,push_cast,seval]
 ·have h0I:¬ (d.length:Int)=0:=by omega
  have h1I:(1:Int)<d.length:=by omega
  rcases hk' with ⟨rfl,rfl⟩ | hk
  ·simp(disch:=try exact dI) only[h0I,h1I,push_cast,seval]
  ·by_cases hnd:nd=3
   ·simp(disch:=try exact dI) only[hk,hnd,h0I,h1I,push_cast,seval]
   ·simp(disch:=try exact dI) only[hk,hnd,h0I,h1I,push_cast,seval]
 ·have h0I:(d.length:Int)=1:=by omega
  rcases hk' with ⟨rfl,rfl⟩ | hk
  ·simp(disch:=try exact dI) only[h0I,push_cast,seval]
  ·simp(disch:=try exact dI) only[hk,hnd,h0I,push_cast,seval]
 ·have h0I:(d.length:Int)=1:=by omega
  rcases hk' with ⟨_,hh⟩ | hk
  ·exact absurd hh (by decide)
  ·simp(disch:=try exact dI) only[hk,h0I,push_cast,seval]
 ·have h0I:(d.length:Int)=0:=by omega
  rcases hk' with ⟨rfl,rfl⟩ | hk
  ·simp(disch:=try exact dI) only[h0I,push_cast,seval]
  ·simp(disch:=try exact dI) only[hk,hnd,h0I,push_cast,seval]
