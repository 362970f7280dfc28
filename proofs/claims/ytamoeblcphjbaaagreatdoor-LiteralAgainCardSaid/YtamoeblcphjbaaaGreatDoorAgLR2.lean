/- A part of the proof for LiteralAgainCardSaid. -/
import Derived.Test.YtamoeblcphjbaaaGreatDoorAgLR1
set_option maxRecDepth 100000
set_option linter.unusedVariables false
set_option linter.unusedSimpArgs false
namespace Go.Proofs.YtamoeblcphjbaaaGreatDoor
open Go Go.Ab Go.RowKit Go.Shelf
attribute [local irreducible] vc
attribute [local go_sem] Oper.semAt_some
theorem GA {l:Nat}{xs:List (List PV)}{base:Nat→Nat→Prop}{n0:Nat}{J:Nat→(Nat→Nat→Prop)→World→Prop}{Jx:World→Prop}(h:Iter l xs base n0 J Jx):∀ n,Kt l xs base n0 J Jx n
 | 0=>fun v hd=>hd.elim
 | n+1=>uz h n (GA h n)
set_option maxHeartbeats 4000000 in
theorem oC (n:Nat)(v:Val)(hd:gm n v)(hv:v.ok):QL Tryz.prog aF 84 [.eptr [v.pv] 0 0] ((bt n 1 v).map CS):=by
 refine⟨by kernel_rfl,fun w imm lbv l J Jx O hG himm hsz hlb hgrow hlt hround hJ=>?_⟩
 have hI:Iter l ((bt n 1 v).map CS) imm w.heap.size J Jx:=⟨hgrow,hlt,hround⟩
 have hp:=hlb 0 _ rfl
 obtain⟨p,rfl⟩:∃ p,lbv = #[p]:=by
  obtain⟨l⟩:=lbv
  match l,hsz with
  | [p],_=>exact⟨p,rfl⟩
 simp only[Array.getD_eq_getD_getElem?,List.size_toArray,List.length_cons,List.length_nil] at hp
 replace hp:PRel w imm (.eptr [v.pv] 0 0) p:=by simpa using hp
 cases hp with
 | eptr _ b off cc sz g _ _ h1 h2 h3 h4 h5 h6=>
   have hs6:sz=6:=by rw[← h3 0 _ rfl,v.cells_len]
   subst hs6
   obtain⟨cs,e1,e2,e3⟩:=v.row
   have hcs:v.pv.cells=cs:=by rw[e1];rfl
   have hel:∀ j,j<6→imm b (off+0*6+j)∧w.cell? ⟨b,off+0*6+j,none⟩=some (g 0 j)∧(g 0 j).oneCell'=true:=fun j hj=>by
    obtain⟨y,hy⟩:∃ y,cs[j]? = some y:=⟨_,List.getElem?_eq_getElem (by omega)⟩
    exact h4 0 _ j y rfl (by rw[hcs];exact hy)
   have hu:PRel w imm v.pv (.agg #[g 0 0,g 0 1,g 0 2,g 0 3,g 0 4,g 0 5]):=by
    rw[e1]
    refine .agg _ _ (by simp[e2]) fun j y hy=>?_
    have hj:j<6:=by have:=(List.getElem?_eq_some_iff.1 hy).1;omega
    have:=h5 0 _ j y rfl (by rw[hcs];exact hy)
    have hc:j=0∨j=1∨j=2∨j=3∨j=4∨j=5:=by omega
    rcases hc with rfl | rfl | rfl | rfl | rfl | rfl<;>exact this
   have hvis:=GA hI n v hd hv 1 0 0 O imm imm w (.agg #[g 0 0,g 0 1,g 0 2,g 0 3,g 0 4,g 0 5]) (fun j q hq=>by simp[hq]) hJ hu hG (fun b o h=>.inl h) (fun b o h=>h) himm (Nat.le_refl _)
   have w0:=(hel 0 (by omega)).2.1;have w1:=(hel 1 (by omega)).2.1;have w2:=(hel 2 (by omega)).2.1;have w3:=(hel 3 (by omega)).2.1;have w4:=(hel 4 (by omega)).2.1;have w5:=(hel 5 (by omega)).2.1
   simp only[Nat.zero_mul,Nat.add_zero] at w0 w1 w2 w3 w4 w5 ⊢
   have hlen:((bt n 1 v).map CS).length=0+(bt n 1 v).length:=by simp
   rw[hlen]
   clear hel hu h4 h5 hround hgrow hlt hI
   simp only[List.append_toArray,List.cons_append,List.nil_append]
   refine callsIn_of_wp Tryz.func84 rfl trivial ?_ rfl
   simp only[Tryz.ntmps84,List.size_toArray,List.length_cons,List.length_nil,Nat.reduceAdd,Nat.reduceSub,Array.replicate_succ,Array.replicate_zero,List.push_toArray,List.append_toArray,List.nil_append,List.cons_append]
   gi_wp2_with (refine⟨trivial,rfl,?_⟩;gi_at_call 85;refine hvis.mono ?_;clear hvis;rintro e W6 (⟨rfl,O6,hJ6,hK6,hG6⟩ | ⟨rfl,hx6⟩))
   ·go_end0
    exact⟨⟨_,rfl⟩,.inl ⟨_,hJ6⟩⟩
   ·go_end0
    exact⟨⟨_,rfl⟩,.inr hx6⟩
end Go.Proofs.YtamoeblcphjbaaaGreatDoor
namespace Go.Proofs.YtamoeblcphjbaaaGreatDoor
open Go Go.Ab
attribute [local irreducible] vc
theorem qU (v:Val):aq Tryz.prog aF 39 [v.pv] (.clo 84 [] [.eptr [v.pv] 0 0]):=by
 obtain⟨k,n,s,t,l,fs⟩:=v
 refine aq.intro Ow (by simp[F39]) ?_
 simp(disch:=try exact dI) only[F39,Val.pv_mk,push_cast,seval]
def yw:PV:=.agg [.nilf,.clo 69 [] [],.clo 71 [] [],.clo 72 [] [],.clo 74 [] [],.clo 77 [] [],.clo 78 [] [],.clo 79 [] [],.clo 80 [] [],.clo 81 [] [],.clo 83 [] []]
theorem zI (f:Nat)(a b:List PV):PV.one (.clo f a b)=true:=rfl
theorem sX:PV.one .nilf=true:=rfl
theorem D2:aq Tryz.prog aF 38 [] yw:=by
 refine aq.intro Ox (by simp[F38]) ?_
 simp(disch:=try exact dI) only[F38,yw,zI,sX,push_cast,seval]
theorem dn (n a b:Int):aq Tryz.prog aF 70 [.int .i64 n,.int .i64 a,.int .i64 b] (.int .i64 (if n<a∨b<n then 2 else 0)):=by
 refine aq.intro Oj (by simp[F70]) ?_
 by_cases h1:n<a
 ·rw[if_pos (.inl h1)]
  simp(disch:=try exact dI) only[F70,push_cast,seval]
 ·by_cases h2:b<n
  ·rw[if_pos (.inr h2)]
   simp(disch:=try exact dI) only[F70,push_cast,seval]
  ·rw[if_neg (by omega)]
   simp(disch:=try exact dI) only[F70,push_cast,seval]
theorem j3 (n m e:Int):aq Tryz.prog aF 75 [.int .i64 n,.int .i64 m,.int .i64 e] (.int .i64 (if m<n then e else 0)):=by
 refine aq.intro Oe (by simp[F75]) ?_
 by_cases h1:m<n
 ·rw[if_pos h1]
  simp(disch:=try exact dI) only[F75,push_cast,seval]
 ·rw[if_neg h1]
  simp(disch:=try exact dI) only[F75,push_cast,seval]
def bQ:Val→Bool
 | .mk k n s t l fs=>decide (k=0)&&(decide (n=0)&&(decide (s=0)&&(decide (t=[])&&(decide (l.length=0)&&decide (fs.length=0)))))
def aE:Val→Bool
 | .mk k n s t l fs=>(decide (k=1∨k=2∨k=6∨k=7∨k=3)||decide (n=0))&&((decide (k=3)||decide (s=0))&&((decide (k=4∨k=5∨k=10)||decide (t=[]))&&((decide (k=8∨k=10)||decide (l.length=0))&&(decide (k=9)||decide (fs.length=0)))))
theorem re (v:Val):aq Tryz.prog aF 16 [v.pv] (.bool (bQ v)):=by
 obtain⟨k,n,s,t,l,fs⟩:=v
 refine aq.intro OQ (by simp[F16]) ?_
 by_cases hk:k=0
 ·by_cases hn:n=0
  ·by_cases hs:s=0
   ·by_cases ht:t=[]
    ·by_cases hl:l.length=0
     ·have hlI:(l.length:Int)=0:=by omega
      by_cases hf:fs.length=0
      ·have hfI:(fs.length:Int)=0:=by omega
       have e:bQ (.mk k n s t l fs)=true:=by simp[bQ,hk,hn,hs,ht,hl,hf]
       rw[e]
       simp(disch:=try exact dI) only[F16,Val.pv_mk,hk,hn,hs,ht,hl,hf,push_cast,seval]
      ·have hfI:¬ (fs.length:Int)=0:=by omega
       have e:bQ (.mk k n s t l fs)=false:=by simp[bQ,hk,hn,hs,ht,hl,hf]
       rw[e]
       simp(disch:=try exact dI) only[F16,Val.pv_mk,hk,hn,hs,ht,hl,hf,push_cast,seval]
     ·have hlI:¬ (l.length:Int)=0:=by omega
      have e:bQ (.mk k n s t l fs)=false:=by simp[bQ,hk,hn,hs,ht,hl]
      rw[e]
      simp(disch:=try exact dI) only[F16,Val.pv_mk,hk,hn,hs,ht,hl,push_cast,seval]
    ·have e:bQ (.mk k n s t l fs)=false:=by simp[bQ,hk,hn,hs,ht]
     rw[e]
     simp(disch:=try exact dI) only[F16,Val.pv_mk,hk,hn,hs,ht,push_cast,seval]
   ·have e:bQ (.mk k n s t l fs)=false:=by simp[bQ,hk,hn,hs]
    rw[e]
    simp(disch:=try exact dI) only[F16,Val.pv_mk,hk,hn,hs,push_cast,seval]
  ·have e:bQ (.mk k n s t l fs)=false:=by simp[bQ,hk,hn]
   rw[e]
   simp(disch:=try exact dI) only[F16,Val.pv_mk,hk,hn,push_cast,seval]
 ·have e:bQ (.mk k n s t l fs)=false:=by simp[bQ,hk]
  rw[e]
  simp(disch:=try exact dI) only[F16,Val.pv_mk,hk,push_cast,seval]
theorem xM (n s:Int)(t:List UInt8)(l:List Val)(fs:List Fld):aq Tryz.prog aF 40 [(Val.mk 1 n s t l fs).pv] (.bool (aE (.mk 1 n s t l fs))):=by
 refine aq.intro fT (by simp[F40]) ?_
 by_cases hs:s=0
 ·by_cases ht:t=[]
  ·by_cases hl:l.length=0
   ·have hlI:(l.length:Int)=0:=by omega
    by_cases hf:fs.length=0
    ·have hfI:(fs.length:Int)=0:=by omega
     have e:aE (.mk 1 n s t l fs)=true:=by simp[aE,hs,ht,hl,hf]
     rw[e]
     simp(disch:=try exact dI) only[F40,Val.pv_mk,hs,ht,hl,hf,push_cast,seval]
    ·have hfI:¬ (fs.length:Int)=0:=by omega
     have e:aE (.mk 1 n s t l fs)=false:=by simp[aE,hs,ht,hl,hf]
     rw[e]
     simp(disch:=try exact dI) only[F40,Val.pv_mk,hs,ht,hl,hf,push_cast,seval]
   ·have hlI:¬ (l.length:Int)=0:=by omega
    have e:aE (.mk 1 n s t l fs)=false:=by simp[aE,hs,ht,hl]
    rw[e]
    simp(disch:=try exact dI) only[F40,Val.pv_mk,hs,ht,hl,push_cast,seval]
  ·have e:aE (.mk 1 n s t l fs)=false:=by simp[aE,hs,ht]
   rw[e]
   simp(disch:=try exact dI) only[F40,Val.pv_mk,hs,ht,push_cast,seval]
 ·have e:aE (.mk 1 n s t l fs)=false:=by simp[aE,hs]
  rw[e]
  simp(disch:=try exact dI) only[F40,Val.pv_mk,hs,push_cast,seval]
theorem xL (n s:Int)(t:List UInt8)(l:List Val)(fs:List Fld):aq Tryz.prog aF 40 [(Val.mk 2 n s t l fs).pv] (.bool (aE (.mk 2 n s t l fs))):=by
 refine aq.intro fT (by simp[F40]) ?_
 by_cases hs:s=0
 ·by_cases ht:t=[]
  ·by_cases hl:l.length=0
   ·have hlI:(l.length:Int)=0:=by omega
    by_cases hf:fs.length=0
    ·have hfI:(fs.length:Int)=0:=by omega
     have e:aE (.mk 2 n s t l fs)=true:=by simp[aE,hs,ht,hl,hf]
     rw[e]
     simp(disch:=try exact dI) only[F40,Val.pv_mk,hs,ht,hl,hf,push_cast,seval]
    ·have hfI:¬ (fs.length:Int)=0:=by omega
     have e:aE (.mk 2 n s t l fs)=false:=by simp[aE,hs,ht,hl,hf]
     rw[e]
     simp(disch:=try exact dI) only[F40,Val.pv_mk,hs,ht,hl,hf,push_cast,seval]
   ·have hlI:¬ (l.length:Int)=0:=by omega
    have e:aE (.mk 2 n s t l fs)=false:=by simp[aE,hs,ht,hl]
    rw[e]
    simp(disch:=try exact dI) only[F40,Val.pv_mk,hs,ht,hl,push_cast,seval]
  ·have e:aE (.mk 2 n s t l fs)=false:=by simp[aE,hs,ht]
   rw[e]
   simp(disch:=try exact dI) only[F40,Val.pv_mk,hs,ht,push_cast,seval]
 ·have e:aE (.mk 2 n s t l fs)=false:=by simp[aE,hs]
  rw[e]
  simp(disch:=try exact dI) only[F40,Val.pv_mk,hs,push_cast,seval]
theorem xK (n s:Int)(t:List UInt8)(l:List Val)(fs:List Fld):aq Tryz.prog aF 40 [(Val.mk 3 n s t l fs).pv] (.bool (aE (.mk 3 n s t l fs))):=by
 refine aq.intro fT (by simp[F40]) ?_
 by_cases ht:t=[]
 ·by_cases hl:l.length=0
  ·have hlI:(l.length:Int)=0:=by omega
   by_cases hf:fs.length=0
   ·have hfI:(fs.length:Int)=0:=by omega
    have e:aE (.mk 3 n s t l fs)=true:=by simp[aE,ht,hl,hf]
    rw[e]
    simp(disch:=try exact dI) only[F40,Val.pv_mk,ht,hl,hf,push_cast,seval]
   ·have hfI:¬ (fs.length:Int)=0:=by omega
    have e:aE (.mk 3 n s t l fs)=false:=by simp[aE,ht,hl,hf]
    rw[e]
    simp(disch:=try exact dI) only[F40,Val.pv_mk,ht,hl,hf,push_cast,seval]
  ·have hlI:¬ (l.length:Int)=0:=by omega
   have e:aE (.mk 3 n s t l fs)=false:=by simp[aE,ht,hl]
   rw[e]
   simp(disch:=try exact dI) only[F40,Val.pv_mk,ht,hl,push_cast,seval]
 ·have e:aE (.mk 3 n s t l fs)=false:=by simp[aE,ht]
  rw[e]
  simp(disch:=try exact dI) only[F40,Val.pv_mk,ht,push_cast,seval]
theorem xJ (n s:Int)(t:List UInt8)(l:List Val)(fs:List Fld):aq Tryz.prog aF 40 [(Val.mk 4 n s t l fs).pv] (.bool (aE (.mk 4 n s t l fs))):=by
 refine aq.intro fT (by simp[F40]) ?_
 by_cases hn:n=0
 ·by_cases hs:s=0
  ·by_cases hl:l.length=0
   ·have hlI:(l.length:Int)=0:=by omega
    by_cases hf:fs.length=0
    ·have hfI:(fs.length:Int)=0:=by omega
     have e:aE (.mk 4 n s t l fs)=true:=by simp[aE,hn,hs,hl,hf]
     rw[e]
     simp(disch:=try exact dI) only[F40,Val.pv_mk,hn,hs,hl,hf,push_cast,seval]
    ·have hfI:¬ (fs.length:Int)=0:=by omega
     have e:aE (.mk 4 n s t l fs)=false:=by simp[aE,hn,hs,hl,hf]
     rw[e]
     simp(disch:=try exact dI) only[F40,Val.pv_mk,hn,hs,hl,hf,push_cast,seval]
   ·have hlI:¬ (l.length:Int)=0:=by omega
    have e:aE (.mk 4 n s t l fs)=false:=by simp[aE,hn,hs,hl]
    rw[e]
    simp(disch:=try exact dI) only[F40,Val.pv_mk,hn,hs,hl,push_cast,seval]
  ·have e:aE (.mk 4 n s t l fs)=false:=by simp[aE,hn,hs]
   rw[e]
   simp(disch:=try exact dI) only[F40,Val.pv_mk,hn,hs,push_cast,seval]
 ·have e:aE (.mk 4 n s t l fs)=false:=by simp[aE,hn]
  rw[e]
  simp(disch:=try exact dI) only[F40,Val.pv_mk,hn,push_cast,seval]
theorem xI (n s:Int)(t:List UInt8)(l:List Val)(fs:List Fld):aq Tryz.prog aF 40 [(Val.mk 5 n s t l fs).pv] (.bool (aE (.mk 5 n s t l fs))):=by
 refine aq.intro fT (by simp[F40]) ?_
 by_cases hn:n=0
 ·by_cases hs:s=0
  ·by_cases hl:l.length=0
   ·have hlI:(l.length:Int)=0:=by omega
    by_cases hf:fs.length=0
    ·have hfI:(fs.length:Int)=0:=by omega
     have e:aE (.mk 5 n s t l fs)=true:=by simp[aE,hn,hs,hl,hf]
     rw[e]
     simp(disch:=try exact dI) only[F40,Val.pv_mk,hn,hs,hl,hf,push_cast,seval]
    ·have hfI:¬ (fs.length:Int)=0:=by omega
     have e:aE (.mk 5 n s t l fs)=false:=by simp[aE,hn,hs,hl,hf]
     rw[e]
     simp(disch:=try exact dI) only[F40,Val.pv_mk,hn,hs,hl,hf,push_cast,seval]
   ·have hlI:¬ (l.length:Int)=0:=by omega
    have e:aE (.mk 5 n s t l fs)=false:=by simp[aE,hn,hs,hl]
    rw[e]
    simp(disch:=try exact dI) only[F40,Val.pv_mk,hn,hs,hl,push_cast,seval]
  ·have e:aE (.mk 5 n s t l fs)=false:=by simp[aE,hn,hs]
   rw[e]
   simp(disch:=try exact dI) only[F40,Val.pv_mk,hn,hs,push_cast,seval]
 ·have e:aE (.mk 5 n s t l fs)=false:=by simp[aE,hn]
  rw[e]
  simp(disch:=try exact dI) only[F40,Val.pv_mk,hn,push_cast,seval]
theorem xH (n s:Int)(t:List UInt8)(l:List Val)(fs:List Fld):aq Tryz.prog aF 40 [(Val.mk 6 n s t l fs).pv] (.bool (aE (.mk 6 n s t l fs))):=by
 refine aq.intro fT (by simp[F40]) ?_
 by_cases hs:s=0
 ·by_cases ht:t=[]
  ·by_cases hl:l.length=0
   ·have hlI:(l.length:Int)=0:=by omega
    by_cases hf:fs.length=0
    ·have hfI:(fs.length:Int)=0:=by omega
     have e:aE (.mk 6 n s t l fs)=true:=by simp[aE,hs,ht,hl,hf]
     rw[e]
     simp(disch:=try exact dI) only[F40,Val.pv_mk,hs,ht,hl,hf,push_cast,seval]
    ·have hfI:¬ (fs.length:Int)=0:=by omega
     have e:aE (.mk 6 n s t l fs)=false:=by simp[aE,hs,ht,hl,hf]
     rw[e]
     simp(disch:=try exact dI) only[F40,Val.pv_mk,hs,ht,hl,hf,push_cast,seval]
   ·have hlI:¬ (l.length:Int)=0:=by omega
    have e:aE (.mk 6 n s t l fs)=false:=by simp[aE,hs,ht,hl]
    rw[e]
    simp(disch:=try exact dI) only[F40,Val.pv_mk,hs,ht,hl,push_cast,seval]
  ·have e:aE (.mk 6 n s t l fs)=false:=by simp[aE,hs,ht]
   rw[e]
   simp(disch:=try exact dI) only[F40,Val.pv_mk,hs,ht,push_cast,seval]
 ·have e:aE (.mk 6 n s t l fs)=false:=by simp[aE,hs]
  rw[e]
  simp(disch:=try exact dI) only[F40,Val.pv_mk,hs,push_cast,seval]
theorem xG (n s:Int)(t:List UInt8)(l:List Val)(fs:List Fld):aq Tryz.prog aF 40 [(Val.mk 7 n s t l fs).pv] (.bool (aE (.mk 7 n s t l fs))):=by
 refine aq.intro fT (by simp[F40]) ?_
 by_cases hs:s=0
 ·by_cases ht:t=[]
  ·by_cases hl:l.length=0
   ·have hlI:(l.length:Int)=0:=by omega
    by_cases hf:fs.length=0
    ·have hfI:(fs.length:Int)=0:=by omega
     have e:aE (.mk 7 n s t l fs)=true:=by simp[aE,hs,ht,hl,hf]
     rw[e]
     simp(disch:=try exact dI) only[F40,Val.pv_mk,hs,ht,hl,hf,push_cast,seval]
    ·have hfI:¬ (fs.length:Int)=0:=by omega
     have e:aE (.mk 7 n s t l fs)=false:=by simp[aE,hs,ht,hl,hf]
     rw[e]
     simp(disch:=try exact dI) only[F40,Val.pv_mk,hs,ht,hl,hf,push_cast,seval]
   ·have hlI:¬ (l.length:Int)=0:=by omega
    have e:aE (.mk 7 n s t l fs)=false:=by simp[aE,hs,ht,hl]
    rw[e]
    simp(disch:=try exact dI) only[F40,Val.pv_mk,hs,ht,hl,push_cast,seval]
  ·have e:aE (.mk 7 n s t l fs)=false:=by simp[aE,hs,ht]
   rw[e]
   simp(disch:=try exact dI) only[F40,Val.pv_mk,hs,ht,push_cast,seval]
 ·have e:aE (.mk 7 n s t l fs)=false:=by simp[aE,hs]
  rw[e]
  simp(disch:=try exact dI) only[F40,Val.pv_mk,hs,push_cast,seval]
theorem xF (n s:Int)(t:List UInt8)(l:List Val)(fs:List Fld):aq Tryz.prog aF 40 [(Val.mk 8 n s t l fs).pv] (.bool (aE (.mk 8 n s t l fs))):=by
 refine aq.intro fT (by simp[F40]) ?_
 by_cases hn:n=0
 ·by_cases hs:s=0
  ·by_cases ht:t=[]
   ·by_cases hf:fs.length=0
    ·have hfI:(fs.length:Int)=0:=by omega
     have e:aE (.mk 8 n s t l fs)=true:=by simp[aE,hn,hs,ht,hf]
     rw[e]
     simp(disch:=try exact dI) only[F40,Val.pv_mk,hn,hs,ht,hf,push_cast,seval]
    ·have hfI:¬ (fs.length:Int)=0:=by omega
     have e:aE (.mk 8 n s t l fs)=false:=by simp[aE,hn,hs,ht,hf]
     rw[e]
     simp(disch:=try exact dI) only[F40,Val.pv_mk,hn,hs,ht,hf,push_cast,seval]
   ·have e:aE (.mk 8 n s t l fs)=false:=by simp[aE,hn,hs,ht]
    rw[e]
    simp(disch:=try exact dI) only[F40,Val.pv_mk,hn,hs,ht,push_cast,seval]
  ·have e:aE (.mk 8 n s t l fs)=false:=by simp[aE,hn,hs]
   rw[e]
   simp(disch:=try exact dI) only[F40,Val.pv_mk,hn,hs,push_cast,seval]
 ·have e:aE (.mk 8 n s t l fs)=false:=by simp[aE,hn]
  rw[e]
  simp(disch:=try exact dI) only[F40,Val.pv_mk,hn,push_cast,seval]
theorem xE (n s:Int)(t:List UInt8)(l:List Val)(fs:List Fld):aq Tryz.prog aF 40 [(Val.mk 9 n s t l fs).pv] (.bool (aE (.mk 9 n s t l fs))):=by
 refine aq.intro fT (by simp[F40]) ?_
 by_cases hn:n=0
 ·by_cases hs:s=0
  ·by_cases ht:t=[]
   ·by_cases hl:l.length=0
    ·have hlI:(l.length:Int)=0:=by omega
     have e:aE (.mk 9 n s t l fs)=true:=by simp[aE,hn,hs,ht,hl]
     rw[e]
     simp(disch:=try exact dI) only[F40,Val.pv_mk,hn,hs,ht,hl,push_cast,seval]
    ·have hlI:¬ (l.length:Int)=0:=by omega
     have e:aE (.mk 9 n s t l fs)=false:=by simp[aE,hn,hs,ht,hl]
     rw[e]
     simp(disch:=try exact dI) only[F40,Val.pv_mk,hn,hs,ht,hl,push_cast,seval]
   ·have e:aE (.mk 9 n s t l fs)=false:=by simp[aE,hn,hs,ht]
    rw[e]
    simp(disch:=try exact dI) only[F40,Val.pv_mk,hn,hs,ht,push_cast,seval]
  ·have e:aE (.mk 9 n s t l fs)=false:=by simp[aE,hn,hs]
   rw[e]
   simp(disch:=try exact dI) only[F40,Val.pv_mk,hn,hs,push_cast,seval]
 ·have e:aE (.mk 9 n s t l fs)=false:=by simp[aE,hn]
  rw[e]
  simp(disch:=try exact dI) only[F40,Val.pv_mk,hn,push_cast,seval]
theorem uC (n s:Int)(t:List UInt8)(l:List Val)(fs:List Fld):aq Tryz.prog aF 40 [(Val.mk 10 n s t l fs).pv] (.bool (aE (.mk 10 n s t l fs))):=by
 refine aq.intro fT (by simp[F40]) ?_
 by_cases hn:n=0
 ·by_cases hs:s=0
  ·by_cases hf:fs.length=0
   ·have hfI:(fs.length:Int)=0:=by omega
    have e:aE (.mk 10 n s t l fs)=true:=by simp[aE,hn,hs,hf]
    rw[e]
    simp(disch:=try exact dI) only[F40,Val.pv_mk,hn,hs,hf,push_cast,seval]
   ·have hfI:¬ (fs.length:Int)=0:=by omega
    have e:aE (.mk 10 n s t l fs)=false:=by simp[aE,hn,hs,hf]
    rw[e]
    simp(disch:=try exact dI) only[F40,Val.pv_mk,hn,hs,hf,push_cast,seval]
  ·have e:aE (.mk 10 n s t l fs)=false:=by simp[aE,hn,hs]
   rw[e]
   simp(disch:=try exact dI) only[F40,Val.pv_mk,hn,hs,push_cast,seval]
 ·have e:aE (.mk 10 n s t l fs)=false:=by simp[aE,hn]
  rw[e]
  simp(disch:=try exact dI) only[F40,Val.pv_mk,hn,push_cast,seval]
theorem HR (v:Val)(hk:1≤v.kind∧v.kind≤10):aq Tryz.prog aF 40 [v.pv] (.bool (aE v)):=by
 obtain⟨k,n,s,t,l,fs⟩:=v
 simp only[Val.kind] at hk
 have hc:k=1∨k=2∨k=3∨k=4∨k=5∨k=6∨k=7∨k=8∨k=9∨k=10:=by omega
 rcases hc with rfl | rfl | rfl | rfl | rfl | rfl | rfl | rfl | rfl | rfl
 ·exact xM n s t l fs
 ·exact xL n s t l fs
 ·exact xK n s t l fs
 ·exact xJ n s t l fs
 ·exact xI n s t l fs
 ·exact xH n s t l fs
 ·exact xG n s t l fs
 ·exact xF n s t l fs
 ·exact xE n s t l fs
 ·exact uC n s t l fs
end Go.Proofs.YtamoeblcphjbaaaGreatDoor
