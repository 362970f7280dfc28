/- A part of the proof for FixedwidthRepresentableCardSaid. -/
import Derived.Test.YtbojpfpliibfbaaGreatDoorReRR1
set_option maxRecDepth 100000
set_option linter.unusedVariables false
set_option linter.unusedSimpArgs false
namespace Go.Proofs.YtbojpfpliibfbaaGreatDoor
open Go Go.Ab Go.RowKit Go.Shelf
attribute [local irreducible] vc
attribute [local go_sem] Oper.semAt_some
theorem CH {l:Nat}{xs:List (List PV)}{base:Nat→Nat→Prop}{n0:Nat}{J:Nat→(Nat→Nat→Prop)→World→Prop}{Jx:World→Prop}(h:Iter l xs base n0 J Jx):∀ n,Gl l xs base n0 J Jx n
 | 0=>fun v hd=>hd.elim
 | n+1=>p6 h n (CH h n)
set_option maxHeartbeats 4000000 in
theorem gj (n:Nat)(v:Val)(hd:cL n v)(hv:v.ok):Lp Tryz.prog aD 295 [.eptr [v.pv] 0 0] ((cy n 1 v).map sI):=by
 refine⟨by kernel_rfl,fun w imm lbv l J Jx O hG himm hsz hlb hgrow hlt hround hJ=>?_⟩
 have hI:Iter l ((cy n 1 v).map sI) imm w.heap.size J Jx:=⟨hgrow,hlt,hround⟩
 have hp:=hlb 0 _ rfl
 obtain⟨p,rfl⟩:∃ p,lbv = #[p]:=by
  obtain⟨l⟩:=lbv
  match l,hsz with
  | [p],_=>exact⟨p,rfl⟩
 simp only[Array.getD_eq_getD_getElem?,List.size_toArray,List.length_cons,List.length_nil] at hp
 replace hp:PRel w imm (.eptr [v.pv] 0 0) p:=by simpa using hp
 cases hp with
 | eptr _ b off cc sz g _ _ h1 h2 h3 h4 h5 h6=>
   have hs6:sz=6:=by rw[← h3 0 _ rfl,v.cells_len]
   subst hs6
   obtain⟨cs,e1,e2,e3⟩:=v.row
   have hcs:v.pv.cells=cs:=by rw[e1];rfl
   have hel:∀ j,j<6→imm b (off+0*6+j)∧w.cell? ⟨b,off+0*6+j,none⟩=some (g 0 j)∧(g 0 j).oneCell'=true:=fun j hj=>by
    obtain⟨y,hy⟩:∃ y,cs[j]? = some y:=⟨_,List.getElem?_eq_getElem (by omega)⟩
    exact h4 0 _ j y rfl (by rw[hcs];exact hy)
   have hu:PRel w imm v.pv (.agg #[g 0 0,g 0 1,g 0 2,g 0 3,g 0 4,g 0 5]):=by
    rw[e1]
    refine .agg _ _ (by simp[e2]) fun j y hy=>?_
    have hj:j<6:=by have:=(List.getElem?_eq_some_iff.1 hy).1;omega
    have:=h5 0 _ j y rfl (by rw[hcs];exact hy)
    have hc:j=0∨j=1∨j=2∨j=3∨j=4∨j=5:=by omega
    rcases hc with rfl | rfl | rfl | rfl | rfl | rfl<;>exact this
   have hvis:=CH hI n v hd hv 1 0 0 O imm imm w (.agg #[g 0 0,g 0 1,g 0 2,g 0 3,g 0 4,g 0 5]) (fun j q hq=>by simp[hq]) hJ hu hG (fun b o h=>.inl h) (fun b o h=>h) himm (Nat.le_refl _)
   have w0:=(hel 0 (by omega)).2.1;have w1:=(hel 1 (by omega)).2.1;have w2:=(hel 2 (by omega)).2.1;have w3:=(hel 3 (by omega)).2.1;have w4:=(hel 4 (by omega)).2.1;have w5:=(hel 5 (by omega)).2.1
   simp only[Nat.zero_mul,Nat.add_zero] at w0 w1 w2 w3 w4 w5 ⊢
   have hlen:((cy n 1 v).map sI).length=0+(cy n 1 v).length:=by simp
   rw[hlen]
   clear hel hu h4 h5 hround hgrow hlt hI
   simp only[List.append_toArray,List.cons_append,List.nil_append]
   refine callsIn_of_wp Tryz.func295 rfl trivial ?_ rfl
   simp only[Tryz.ntmps295,List.size_toArray,List.length_cons,List.length_nil,Nat.reduceAdd,Nat.reduceSub,Array.replicate_succ,Array.replicate_zero,List.push_toArray,List.append_toArray,List.nil_append,List.cons_append]
   gi_wp2_with (refine⟨trivial,rfl,?_⟩;gi_at_call 296;refine hvis.mono ?_;clear hvis;rintro e W6 (⟨rfl,O6,hJ6,hK6,hG6⟩ | ⟨rfl,hx6⟩))
   ·go_end0
    exact⟨⟨_,rfl⟩,.inl ⟨_,hJ6⟩⟩
   ·go_end0
    exact⟨⟨_,rfl⟩,.inr hx6⟩
end Go.Proofs.YtbojpfpliibfbaaGreatDoor
namespace Go.Proofs.YtbojpfpliibfbaaGreatDoor
open Go Go.Ab
attribute [local irreducible] vc
theorem ix (v:Val):ag Tryz.prog aD 261 [v.pv] (.clo 295 [] [.eptr [v.pv] 0 0]):=by
 obtain⟨k,n,s,t,l,fs⟩:=v
 refine ag.intro GO (by simp[M1]) ?_
 simp(disch:=try exact dI) only[M1,Val.pv_mk,push_cast,seval]
def tV:PV:=.agg [.nilf,.clo 282 [] [],.clo 284 [] [],.clo 285 [] [],.clo 287 [] [],.clo 289 [] [],.clo 290 [] [],.clo 291 [] [],.clo 292 [] [],.clo 293 [] [],.clo 294 [] []]
theorem vh (f:Nat)(a b:List PV):PV.one (.clo f a b)=true:=rfl
theorem oS:PV.one .nilf=true:=rfl
theorem zw:ag Tryz.prog aD 260 [] tV:=by
 refine ag.intro GP (by simp[M2]) ?_
 simp(disch:=try exact dI) only[M2,tV,vh,oS,push_cast,seval]
theorem cC (n a b:Int):ag Tryz.prog aD 283 [.int .i64 n,.int .i64 a,.int .i64 b] (.int .i64 (if n<a∨b<n then 2 else 0)):=by
 refine ag.intro GH (by simp[KJ]) ?_
 by_cases h1:n<a
 ·rw[if_pos (.inl h1)]
  simp(disch:=try exact dI) only[KJ,push_cast,seval]
 ·by_cases h2:b<n
  ·rw[if_pos (.inr h2)]
   simp(disch:=try exact dI) only[KJ,push_cast,seval]
  ·rw[if_neg (by omega)]
   simp(disch:=try exact dI) only[KJ,push_cast,seval]
theorem ig (n m e:Int):ag Tryz.prog aD 288 [.int .i64 n,.int .i64 m,.int .i64 e] (.int .i64 (if m<n then e else 0)):=by
 refine ag.intro GC (by simp[Lr]) ?_
 by_cases h1:m<n
 ·rw[if_pos h1]
  simp(disch:=try exact dI) only[Lr,push_cast,seval]
 ·rw[if_neg h1]
  simp(disch:=try exact dI) only[Lr,push_cast,seval]
def aL:Val→Bool
 | .mk k n s t l fs=>decide (k=0)&&(decide (n=0)&&(decide (s=0)&&(decide (t=[])&&(decide (l.length=0)&&decide (fs.length=0)))))
def am:Val→Bool
 | .mk k n s t l fs=>(decide (k=1∨k=2∨k=6∨k=7∨k=3)||decide (n=0))&&((decide (k=3)||decide (s=0))&&((decide (k=4∨k=5∨k=10)||decide (t=[]))&&((decide (k=8∨k=10)||decide (l.length=0))&&(decide (k=9)||decide (fs.length=0)))))
theorem E5 (v:Val):ag Tryz.prog aD 110 [v.pv] (.bool (aL v)):=by
 obtain⟨k,n,s,t,l,fs⟩:=v
 refine ag.intro Hz (by simp[CE]) ?_
 by_cases hk:k=0
 ·by_cases hn:n=0
  ·by_cases hs:s=0
   ·by_cases ht:t=[]
    ·by_cases hl:l.length=0
     ·have hlI:(l.length:Int)=0:=by omega
      by_cases hf:fs.length=0
      ·have hfI:(fs.length:Int)=0:=by omega
       have e:aL (.mk k n s t l fs)=true:=by simp[aL,hk,hn,hs,ht,hl,hf]
       rw[e]
       simp(disch:=try exact dI) only[CE,Val.pv_mk,hk,hn,hs,ht,hl,hf,push_cast,seval]
      ·have hfI:¬ (fs.length:Int)=0:=by omega
       have e:aL (.mk k n s t l fs)=false:=by simp[aL,hk,hn,hs,ht,hl,hf]
       rw[e]
       simp(disch:=try exact dI) only[CE,Val.pv_mk,hk,hn,hs,ht,hl,hf,push_cast,seval]
     ·have hlI:¬ (l.length:Int)=0:=by omega
      have e:aL (.mk k n s t l fs)=false:=by simp[aL,hk,hn,hs,ht,hl]
      rw[e]
      simp(disch:=try exact dI) only[CE,Val.pv_mk,hk,hn,hs,ht,hl,push_cast,seval]
    ·have e:aL (.mk k n s t l fs)=false:=by simp[aL,hk,hn,hs,ht]
     rw[e]
     simp(disch:=try exact dI) only[CE,Val.pv_mk,hk,hn,hs,ht,push_cast,seval]
   ·have e:aL (.mk k n s t l fs)=false:=by simp[aL,hk,hn,hs]
    rw[e]
    simp(disch:=try exact dI) only[CE,Val.pv_mk,hk,hn,hs,push_cast,seval]
  ·have e:aL (.mk k n s t l fs)=false:=by simp[aL,hk,hn]
   rw[e]
   simp(disch:=try exact dI) only[CE,Val.pv_mk,hk,hn,push_cast,seval]
 ·have e:aL (.mk k n s t l fs)=false:=by simp[aL,hk]
  rw[e]
  simp(disch:=try exact dI) only[CE,Val.pv_mk,hk,push_cast,seval]
theorem tp (n s:Int)(t:List UInt8)(l:List Val)(fs:List Fld):ag Tryz.prog aD 262 [(Val.mk 1 n s t l fs).pv] (.bool (am (.mk 1 n s t l fs))):=by
 refine ag.intro du (by simp[bX]) ?_
 by_cases hs:s=0
 ·by_cases ht:t=[]
  ·by_cases hl:l.length=0
   ·have hlI:(l.length:Int)=0:=by omega
    by_cases hf:fs.length=0
    ·have hfI:(fs.length:Int)=0:=by omega
     have e:am (.mk 1 n s t l fs)=true:=by simp[am,hs,ht,hl,hf]
     rw[e]
     simp(disch:=try exact dI) only[bX,Val.pv_mk,hs,ht,hl,hf,push_cast,seval]
    ·have hfI:¬ (fs.length:Int)=0:=by omega
     have e:am (.mk 1 n s t l fs)=false:=by simp[am,hs,ht,hl,hf]
     rw[e]
     simp(disch:=try exact dI) only[bX,Val.pv_mk,hs,ht,hl,hf,push_cast,seval]
   ·have hlI:¬ (l.length:Int)=0:=by omega
    have e:am (.mk 1 n s t l fs)=false:=by simp[am,hs,ht,hl]
    rw[e]
    simp(disch:=try exact dI) only[bX,Val.pv_mk,hs,ht,hl,push_cast,seval]
  ·have e:am (.mk 1 n s t l fs)=false:=by simp[am,hs,ht]
   rw[e]
   simp(disch:=try exact dI) only[bX,Val.pv_mk,hs,ht,push_cast,seval]
 ·have e:am (.mk 1 n s t l fs)=false:=by simp[am,hs]
  rw[e]
  simp(disch:=try exact dI) only[bX,Val.pv_mk,hs,push_cast,seval]
theorem tm (n s:Int)(t:List UInt8)(l:List Val)(fs:List Fld):ag Tryz.prog aD 262 [(Val.mk 2 n s t l fs).pv] (.bool (am (.mk 2 n s t l fs))):=by
 refine ag.intro du (by simp[bX]) ?_
 by_cases hs:s=0
 ·by_cases ht:t=[]
  ·by_cases hl:l.length=0
   ·have hlI:(l.length:Int)=0:=by omega
    by_cases hf:fs.length=0
    ·have hfI:(fs.length:Int)=0:=by omega
     have e:am (.mk 2 n s t l fs)=true:=by simp[am,hs,ht,hl,hf]
     rw[e]
     simp(disch:=try exact dI) only[bX,Val.pv_mk,hs,ht,hl,hf,push_cast,seval]
    ·have hfI:¬ (fs.length:Int)=0:=by omega
     have e:am (.mk 2 n s t l fs)=false:=by simp[am,hs,ht,hl,hf]
     rw[e]
     simp(disch:=try exact dI) only[bX,Val.pv_mk,hs,ht,hl,hf,push_cast,seval]
   ·have hlI:¬ (l.length:Int)=0:=by omega
    have e:am (.mk 2 n s t l fs)=false:=by simp[am,hs,ht,hl]
    rw[e]
    simp(disch:=try exact dI) only[bX,Val.pv_mk,hs,ht,hl,push_cast,seval]
  ·have e:am (.mk 2 n s t l fs)=false:=by simp[am,hs,ht]
   rw[e]
   simp(disch:=try exact dI) only[bX,Val.pv_mk,hs,ht,push_cast,seval]
 ·have e:am (.mk 2 n s t l fs)=false:=by simp[am,hs]
  rw[e]
  simp(disch:=try exact dI) only[bX,Val.pv_mk,hs,push_cast,seval]
theorem tl (n s:Int)(t:List UInt8)(l:List Val)(fs:List Fld):ag Tryz.prog aD 262 [(Val.mk 3 n s t l fs).pv] (.bool (am (.mk 3 n s t l fs))):=by
 refine ag.intro du (by simp[bX]) ?_
 by_cases ht:t=[]
 ·by_cases hl:l.length=0
  ·have hlI:(l.length:Int)=0:=by omega
   by_cases hf:fs.length=0
   ·have hfI:(fs.length:Int)=0:=by omega
    have e:am (.mk 3 n s t l fs)=true:=by simp[am,ht,hl,hf]
    rw[e]
    simp(disch:=try exact dI) only[bX,Val.pv_mk,ht,hl,hf,push_cast,seval]
   ·have hfI:¬ (fs.length:Int)=0:=by omega
    have e:am (.mk 3 n s t l fs)=false:=by simp[am,ht,hl,hf]
    rw[e]
    simp(disch:=try exact dI) only[bX,Val.pv_mk,ht,hl,hf,push_cast,seval]
  ·have hlI:¬ (l.length:Int)=0:=by omega
   have e:am (.mk 3 n s t l fs)=false:=by simp[am,ht,hl]
   rw[e]
   simp(disch:=try exact dI) only[bX,Val.pv_mk,ht,hl,push_cast,seval]
 ·have e:am (.mk 3 n s t l fs)=false:=by simp[am,ht]
  rw[e]
  simp(disch:=try exact dI) only[bX,Val.pv_mk,ht,push_cast,seval]
theorem tk (n s:Int)(t:List UInt8)(l:List Val)(fs:List Fld):ag Tryz.prog aD 262 [(Val.mk 4 n s t l fs).pv] (.bool (am (.mk 4 n s t l fs))):=by
 refine ag.intro du (by simp[bX]) ?_
 by_cases hn:n=0
 ·by_cases hs:s=0
  ·by_cases hl:l.length=0
   ·have hlI:(l.length:Int)=0:=by omega
    by_cases hf:fs.length=0
    ·have hfI:(fs.length:Int)=0:=by omega
     have e:am (.mk 4 n s t l fs)=true:=by simp[am,hn,hs,hl,hf]
     rw[e]
     simp(disch:=try exact dI) only[bX,Val.pv_mk,hn,hs,hl,hf,push_cast,seval]
    ·have hfI:¬ (fs.length:Int)=0:=by omega
     have e:am (.mk 4 n s t l fs)=false:=by simp[am,hn,hs,hl,hf]
     rw[e]
     simp(disch:=try exact dI) only[bX,Val.pv_mk,hn,hs,hl,hf,push_cast,seval]
   ·have hlI:¬ (l.length:Int)=0:=by omega
    have e:am (.mk 4 n s t l fs)=false:=by simp[am,hn,hs,hl]
    rw[e]
    simp(disch:=try exact dI) only[bX,Val.pv_mk,hn,hs,hl,push_cast,seval]
  ·have e:am (.mk 4 n s t l fs)=false:=by simp[am,hn,hs]
   rw[e]
   simp(disch:=try exact dI) only[bX,Val.pv_mk,hn,hs,push_cast,seval]
 ·have e:am (.mk 4 n s t l fs)=false:=by simp[am,hn]
  rw[e]
  simp(disch:=try exact dI) only[bX,Val.pv_mk,hn,push_cast,seval]
theorem tj (n s:Int)(t:List UInt8)(l:List Val)(fs:List Fld):ag Tryz.prog aD 262 [(Val.mk 5 n s t l fs).pv] (.bool (am (.mk 5 n s t l fs))):=by
 refine ag.intro du (by simp[bX]) ?_
 by_cases hn:n=0
 ·by_cases hs:s=0
  ·by_cases hl:l.length=0
   ·have hlI:(l.length:Int)=0:=by omega
    by_cases hf:fs.length=0
    ·have hfI:(fs.length:Int)=0:=by omega
     have e:am (.mk 5 n s t l fs)=true:=by simp[am,hn,hs,hl,hf]
     rw[e]
     simp(disch:=try exact dI) only[bX,Val.pv_mk,hn,hs,hl,hf,push_cast,seval]
    ·have hfI:¬ (fs.length:Int)=0:=by omega
     have e:am (.mk 5 n s t l fs)=false:=by simp[am,hn,hs,hl,hf]
     rw[e]
     simp(disch:=try exact dI) only[bX,Val.pv_mk,hn,hs,hl,hf,push_cast,seval]
   ·have hlI:¬ (l.length:Int)=0:=by omega
    have e:am (.mk 5 n s t l fs)=false:=by simp[am,hn,hs,hl]
    rw[e]
    simp(disch:=try exact dI) only[bX,Val.pv_mk,hn,hs,hl,push_cast,seval]
  ·have e:am (.mk 5 n s t l fs)=false:=by simp[am,hn,hs]
   rw[e]
   simp(disch:=try exact dI) only[bX,Val.pv_mk,hn,hs,push_cast,seval]
 ·have e:am (.mk 5 n s t l fs)=false:=by simp[am,hn]
  rw[e]
  simp(disch:=try exact dI) only[bX,Val.pv_mk,hn,push_cast,seval]
theorem ti (n s:Int)(t:List UInt8)(l:List Val)(fs:List Fld):ag Tryz.prog aD 262 [(Val.mk 6 n s t l fs).pv] (.bool (am (.mk 6 n s t l fs))):=by
 refine ag.intro du (by simp[bX]) ?_
 by_cases hs:s=0
 ·by_cases ht:t=[]
  ·by_cases hl:l.length=0
   ·have hlI:(l.length:Int)=0:=by omega
    by_cases hf:fs.length=0
    ·have hfI:(fs.length:Int)=0:=by omega
     have e:am (.mk 6 n s t l fs)=true:=by simp[am,hs,ht,hl,hf]
     rw[e]
     simp(disch:=try exact dI) only[bX,Val.pv_mk,hs,ht,hl,hf,push_cast,seval]
    ·have hfI:¬ (fs.length:Int)=0:=by omega
     have e:am (.mk 6 n s t l fs)=false:=by simp[am,hs,ht,hl,hf]
     rw[e]
     simp(disch:=try exact dI) only[bX,Val.pv_mk,hs,ht,hl,hf,push_cast,seval]
   ·have hlI:¬ (l.length:Int)=0:=by omega
    have e:am (.mk 6 n s t l fs)=false:=by simp[am,hs,ht,hl]
    rw[e]
    simp(disch:=try exact dI) only[bX,Val.pv_mk,hs,ht,hl,push_cast,seval]
  ·have e:am (.mk 6 n s t l fs)=false:=by simp[am,hs,ht]
   rw[e]
   simp(disch:=try exact dI) only[bX,Val.pv_mk,hs,ht,push_cast,seval]
 ·have e:am (.mk 6 n s t l fs)=false:=by simp[am,hs]
  rw[e]
  simp(disch:=try exact dI) only[bX,Val.pv_mk,hs,push_cast,seval]
theorem th (n s:Int)(t:List UInt8)(l:List Val)(fs:List Fld):ag Tryz.prog aD 262 [(Val.mk 7 n s t l fs).pv] (.bool (am (.mk 7 n s t l fs))):=by
 refine ag.intro du (by simp[bX]) ?_
 by_cases hs:s=0
 ·by_cases ht:t=[]
  ·by_cases hl:l.length=0
   ·have hlI:(l.length:Int)=0:=by omega
    by_cases hf:fs.length=0
    ·have hfI:(fs.length:Int)=0:=by omega
     have e:am (.mk 7 n s t l fs)=true:=by simp[am,hs,ht,hl,hf]
     rw[e]
     simp(disch:=try exact dI) only[bX,Val.pv_mk,hs,ht,hl,hf,push_cast,seval]
    ·have hfI:¬ (fs.length:Int)=0:=by omega
     have e:am (.mk 7 n s t l fs)=false:=by simp[am,hs,ht,hl,hf]
     rw[e]
     simp(disch:=try exact dI) only[bX,Val.pv_mk,hs,ht,hl,hf,push_cast,seval]
   ·have hlI:¬ (l.length:Int)=0:=by omega
    have e:am (.mk 7 n s t l fs)=false:=by simp[am,hs,ht,hl]
    rw[e]
    simp(disch:=try exact dI) only[bX,Val.pv_mk,hs,ht,hl,push_cast,seval]
  ·have e:am (.mk 7 n s t l fs)=false:=by simp[am,hs,ht]
   rw[e]
   simp(disch:=try exact dI) only[bX,Val.pv_mk,hs,ht,push_cast,seval]
 ·have e:am (.mk 7 n s t l fs)=false:=by simp[am,hs]
  rw[e]
  simp(disch:=try exact dI) only[bX,Val.pv_mk,hs,push_cast,seval]
theorem tg (n s:Int)(t:List UInt8)(l:List Val)(fs:List Fld):ag Tryz.prog aD 262 [(Val.mk 8 n s t l fs).pv] (.bool (am (.mk 8 n s t l fs))):=by
 refine ag.intro du (by simp[bX]) ?_
 by_cases hn:n=0
 ·by_cases hs:s=0
  ·by_cases ht:t=[]
   ·by_cases hf:fs.length=0
    ·have hfI:(fs.length:Int)=0:=by omega
     have e:am (.mk 8 n s t l fs)=true:=by simp[am,hn,hs,ht,hf]
     rw[e]
     simp(disch:=try exact dI) only[bX,Val.pv_mk,hn,hs,ht,hf,push_cast,seval]
    ·have hfI:¬ (fs.length:Int)=0:=by omega
     have e:am (.mk 8 n s t l fs)=false:=by simp[am,hn,hs,ht,hf]
     rw[e]
     simp(disch:=try exact dI) only[bX,Val.pv_mk,hn,hs,ht,hf,push_cast,seval]
   ·have e:am (.mk 8 n s t l fs)=false:=by simp[am,hn,hs,ht]
    rw[e]
    simp(disch:=try exact dI) only[bX,Val.pv_mk,hn,hs,ht,push_cast,seval]
  ·have e:am (.mk 8 n s t l fs)=false:=by simp[am,hn,hs]
   rw[e]
   simp(disch:=try exact dI) only[bX,Val.pv_mk,hn,hs,push_cast,seval]
 ·have e:am (.mk 8 n s t l fs)=false:=by simp[am,hn]
  rw[e]
  simp(disch:=try exact dI) only[bX,Val.pv_mk,hn,push_cast,seval]
theorem tf (n s:Int)(t:List UInt8)(l:List Val)(fs:List Fld):ag Tryz.prog aD 262 [(Val.mk 9 n s t l fs).pv] (.bool (am (.mk 9 n s t l fs))):=by
 refine ag.intro du (by simp[bX]) ?_
 by_cases hn:n=0
 ·by_cases hs:s=0
  ·by_cases ht:t=[]
   ·by_cases hl:l.length=0
    ·have hlI:(l.length:Int)=0:=by omega
     have e:am (.mk 9 n s t l fs)=true:=by simp[am,hn,hs,ht,hl]
     rw[e]
     simp(disch:=try exact dI) only[bX,Val.pv_mk,hn,hs,ht,hl,push_cast,seval]
    ·have hlI:¬ (l.length:Int)=0:=by omega
     have e:am (.mk 9 n s t l fs)=false:=by simp[am,hn,hs,ht,hl]
     rw[e]
     simp(disch:=try exact dI) only[bX,Val.pv_mk,hn,hs,ht,hl,push_cast,seval]
   ·have e:am (.mk 9 n s t l fs)=false:=by simp[am,hn,hs,ht]
    rw[e]
    simp(disch:=try exact dI) only[bX,Val.pv_mk,hn,hs,ht,push_cast,seval]
  ·have e:am (.mk 9 n s t l fs)=false:=by simp[am,hn,hs]
   rw[e]
   simp(disch:=try exact dI) only[bX,Val.pv_mk,hn,hs,push_cast,seval]
 ·have e:am (.mk 9 n s t l fs)=false:=by simp[am,hn]
  rw[e]
  simp(disch:=try exact dI) only[bX,Val.pv_mk,hn,push_cast,seval]
theorem p8 (n s:Int)(t:List UInt8)(l:List Val)(fs:List Fld):ag Tryz.prog aD 262 [(Val.mk 10 n s t l fs).pv] (.bool (am (.mk 10 n s t l fs))):=by
 refine ag.intro du (by simp[bX]) ?_
 by_cases hn:n=0
 ·by_cases hs:s=0
  ·by_cases hf:fs.length=0
   ·have hfI:(fs.length:Int)=0:=by omega
    have e:am (.mk 10 n s t l fs)=true:=by simp[am,hn,hs,hf]
    rw[e]
    simp(disch:=try exact dI) only[bX,Val.pv_mk,hn,hs,hf,push_cast,seval]
   ·have hfI:¬ (fs.length:Int)=0:=by omega
    have e:am (.mk 10 n s t l fs)=false:=by simp[am,hn,hs,hf]
    rw[e]
    simp(disch:=try exact dI) only[bX,Val.pv_mk,hn,hs,hf,push_cast,seval]
  ·have e:am (.mk 10 n s t l fs)=false:=by simp[am,hn,hs]
   rw[e]
   simp(disch:=try exact dI) only[bX,Val.pv_mk,hn,hs,push_cast,seval]
 ·have e:am (.mk 10 n s t l fs)=false:=by simp[am,hn]
  rw[e]
  simp(disch:=try exact dI) only[bX,Val.pv_mk,hn,push_cast,seval]
theorem DN (v:Val)(hk:1≤v.kind∧v.kind≤10):ag Tryz.prog aD 262 [v.pv] (.bool (am v)):=by
 obtain⟨k,n,s,t,l,fs⟩:=v
 simp only[Val.kind] at hk
 have hc:k=1∨k=2∨k=3∨k=4∨k=5∨k=6∨k=7∨k=8∨k=9∨k=10:=by omega
 rcases hc with rfl | rfl | rfl | rfl | rfl | rfl | rfl | rfl | rfl | rfl
 ·exact tp n s t l fs
 ·exact tm n s t l fs
 ·exact tl n s t l fs
 ·exact tk n s t l fs
 ·exact tj n s t l fs
 ·exact ti n s t l fs
 ·exact th n s t l fs
 ·exact tg n s t l fs
 ·exact tf n s t l fs
 ·exact p8 n s t l fs
end Go.Proofs.YtbojpfpliibfbaaGreatDoor
