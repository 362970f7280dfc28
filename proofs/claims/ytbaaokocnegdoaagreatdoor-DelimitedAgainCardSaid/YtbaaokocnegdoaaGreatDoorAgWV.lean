/- A part of the proof. -/
import Derived.Test.YtbaaokocnegdoaaGreatDoorAgWD
set_option linter.unusedVariables false
set_option linter.unusedSimpArgs false
set_option maxRecDepth 100000
namespace Go.Proofs.YtbaaokocnegdoaaGreatDoor
open Go Go.Ab
def jg (rec:Val->Val):Fld->Fld
 | .mk n v=>.mk (n.take 40) (rec v)
def cf (rec:Val->Val)(on:Bool):Val->Val
 | .mk k i s t l f=>.mk k i s (t.take 40) (if on then (l.take 6).map rec else []) (if on then (f.take 6).map (jg rec) else [])
def aN:Nat->Val->Val
 | 0=>cf id false
 | n+1=>cf (aN n) (decide (0<n))
def Az (on:Prop)[Decidable on](len:Nat):Nat:=if on then min len 6 else 0
theorem Bv (n:Nat)(hn:n<=1000)(ih:∀ m v,m<n->v.ok->ae Tryz.prog au 19 [v.pv,.int .i64 m] (aN m v).pv)(v:Val)(hv:v.ok):ae Tryz.prog au 19 [v.pv,.int .i64 n] (aN n v).pv:=by
 obtain⟨k,i,s,t,l,f⟩:=v
 rw[Val.ok_mk] at hv
 obtain⟨h1,h2,h3,h4,h5,h7,h6,h8⟩:=hv
 refine ae.intro Q19.2 (by simp[Q19]) ?_
 simp(disch:=try exact dI) only[Q19,Val.pv_mk,push_cast,seval]
 refine iu ([(5,0,31,6)]) (fun m:Nat=>[(5,.olist 2 6 (((l.take m).map (aN (n - 1))).map Val.pv)),(7,.pv (.int .i64 (m:Int)))]) (fun _=>[]) (fun m=>m<=Az (1<n) l.length) (fun m=>6 - m) (0) ([1,2,4,5,6]) (fun m=>m=Az (1<n) l.length) ?_;intro e0 σ0 n0 h0;simp(disch:=try exact dI) only[push_cast,seval] at h0;obtain⟨rfl,rfl,rfl⟩:=h0;refine⟨?_,?_,?_,?_⟩
 ·exact qsZ
 ·omega
 ·intro m hm
  by_cases hgo:m<l.length/\m<6/\1<n
  ·obtain⟨g1,g2,g3⟩:=hgo
   have g1I:(m:Int)<l.length:=by omega
   have g2I:(m:Int)<6:=by omega
   have g3I:(1:Int)<n:=by omega
   obtain⟨x,hx⟩:∃ x,l[m]? = some x:=⟨_,List.getElem?_eq_getElem g1⟩
   obtain⟨n',rfl⟩:∃ n',n=n'+1:=⟨n - 1,by omega⟩
   have hts:=aG hx
   simp(disch:=try exact dI) only[hx,Val.cells_len,Val.isAgg,Nat.add_sub_cancel,Int.add_sub_cancel,push_cast,seval]
   refine ab.pure (ih n' x (by omega) (h7 x (List.mem_of_getElem? hx))) rfl ?_
   simp(disch:=try exact dI) only[Val.cells_len,Val.ones,push_cast,seval]
   exact⟨m+1,aR (by simp(disch:=try exact dI) only[hts,List.map_append,push_cast,seval]),by simp only[Az,if_pos g3] at hm ⊢;omega,by omega⟩
  ·have hm':m=Az (1<n) l.length:=by unfold Az at hm ⊢;split at hm<;>rename_i h1<;>(try rw[if_pos h1])<;>(try rw[if_neg h1])<;>omega
   have hexit:¬ m<l.length\/(m<l.length/\¬ m<6)\/(m<l.length/\m<6/\¬ 1<n):=by omega
   rcases hexit with g1 | ⟨g1,g2⟩ | ⟨g1,g2,g3⟩
   ·have g1I:¬ (m:Int)<l.length:=by omega
    refine zgZ ?_
    exact⟨m,hm',qsZ⟩
   ·have g1I:(m:Int)<l.length:=by omega
    have g2I:¬ (m:Int)<6:=by omega
    refine zgZ ?_
    exact⟨m,hm',qsZ⟩
   ·have g1I:(m:Int)<l.length:=by omega
    have g2I:(m:Int)<6:=by omega
    have g3I:¬ (1:Int)<n:=by omega
    refine zgZ ?_
    exact⟨m,hm',qsZ⟩
 ·intro m hm s1 hs1;simp(disch:=try exact dI) only[push_cast,seval] at hs1;subst hs1
  have hl:(l.take m).map (aN (n - 1))=if decide (1<n)=true then (l.take 6).map (aN (n - 1)) else []:=by
   subst hm;unfold Az
   by_cases h:1<n
   ·simp only[h,decide_true,if_true];rw[Nat.min_comm,<- List.take_take,List.take_of_length_le (Nat.le_refl _)]
   ·simp[h]
  obtain⟨LL,hLL⟩:∃ LL,LL=(l.take m).map (aN (n - 1)):=⟨_,rfl⟩
  rw[<- hLL] at hl ⊢
  clear hLL
  refine zgZ ?_
  refine iu ([(6,0,83,7)]) (fun m:Nat=>[(6,.olist 3 7 (((f.take m).map (jg (aN (n - 1)))).map Fld.pv)),(8,.pv (.int .i64 (m:Int)))]) (fun _=>[]) (fun m=>m<=Az (1<n) f.length) (fun m=>6 - m) (0) ([2,4,5,6]) (fun m=>m=Az (1<n) f.length) ?_;intro e0 σ0 n0 h0;simp(disch:=try exact dI) only[push_cast,seval] at h0;obtain⟨rfl,rfl,rfl⟩:=h0;refine⟨?_,?_,?_,?_⟩
  ·exact qsZ
  ·omega
  ·intro m hm
   by_cases hgo:m<f.length/\m<6/\1<n
   ·obtain⟨g1,g2,g3⟩:=hgo
    have g1I:(m:Int)<f.length:=by omega
    have g2I:(m:Int)<6:=by omega
    have g3I:(1:Int)<n:=by omega
    obtain⟨x,hx⟩:∃ x,f[m]? = some x:=⟨_,List.getElem?_eq_getElem g1⟩
    have hxo:=h8 x (List.mem_of_getElem? hx)
    obtain⟨nm,vv⟩:=x
    rw[Fld.ok_mk] at hxo
    obtain⟨n',rfl⟩:∃ n',n=n'+1:=⟨n - 1,by omega⟩
    have hcall:=ih n' vv (by omega) hxo.2
    have hts:=aG hx
    obtain⟨w1,w2,w3,w4,w5,w6⟩:=vv
    rw[Val.pv_mk] at hcall
    have hlen:=Fld.cells_len (.mk nm (.mk w1 w2 w3 w4 w5 w6))
    rw[Fld.pv_mk,Val.pv_mk] at hlen
    obtain⟨cs,hcs,hcl,hco⟩:=Val.row (aN n' (.mk w1 w2 w3 w4 w5 w6))
    have hone:cs.all PV.one=true:=List.all_eq_true.2 hco
    rw[hcs] at hcall
    obtain⟨u1,u2,u3,u4,u5,u6,rfl⟩:=PI hcl
    simp only[List.all_cons,List.all_nil,Bool.and_true,Bool.and_eq_true] at hone
    obtain⟨o1,o2,o3,o4,o5,o6⟩:=hone
    simp(disch:=try exact dI) only[hx,Fld.pv_mk,Val.pv_mk,Nat.add_sub_cancel,Int.add_sub_cancel,push_cast,seval]
    refine ag hcall rfl ?_
    simp(disch:=try exact dI) only[o1,o2,o3,o4,o5,o6,push_cast,seval]
    exact⟨m+1,aR (by simp(disch:=try exact dI) only[hts,List.map_append,jg,Fld.pv_mk,hcs,push_cast,seval]),by simp only[Az,if_pos g3] at hm ⊢;omega,by omega⟩
   ·have hm':m=Az (1<n) f.length:=by unfold Az at hm ⊢;split at hm<;>rename_i h1<;>(try rw[if_pos h1])<;>(try rw[if_neg h1])<;>omega
    have hexit:¬ m<f.length\/(m<f.length/\¬ m<6)\/(m<f.length/\m<6/\¬ 1<n):=by omega
    rcases hexit with g1 | ⟨g1,g2⟩ | ⟨g1,g2,g3⟩
    ·have g1I:¬ (m:Int)<f.length:=by omega
     refine zgZ ?_
     exact⟨m,hm',qsZ⟩
    ·have g1I:(m:Int)<f.length:=by omega
     have g2I:¬ (m:Int)<6:=by omega
     refine zgZ ?_
     exact⟨m,hm',qsZ⟩
    ·have g1I:(m:Int)<f.length:=by omega
     have g2I:(m:Int)<6:=by omega
     have g3I:¬ (1:Int)<n:=by omega
     refine zgZ ?_
     exact⟨m,hm',qsZ⟩
  ·intro q hq s1 hs1;simp(disch:=try exact dI) only[push_cast,seval] at hs1;subst hs1
   have hf:(f.take q).map (jg (aN (n - 1)))=if decide (1<n)=true then (f.take 6).map (jg (aN (n - 1))) else []:=by
    subst hq;unfold Az
    by_cases h:1<n
    ·simp only[h,decide_true,if_true];rw[Nat.min_comm,<- List.take_take,List.take_of_length_le (Nat.le_refl _)]
    ·simp[h]
   have hfin:(aN n (.mk k i s t l f)).pv = .agg [.int .i64 k,.int .i64 i,.int .i64 s,.str (t.take 40),.list (LL.map Val.pv),.list (((f.take q).map (jg (aN (n - 1)))).map Fld.pv)]:=by
    rw[hl,hf]
    cases n with
    | zero=>simp[aN,cf,Val.pv_mk]
    | succ n=>simp[aN,cf,Val.pv_mk]
   rw[hfin]
   exact qsZ
theorem rU:∀ (n:Nat) (hn:n<=1000) (v:Val),v.ok->ae Tryz.prog au 19 [v.pv,.int .i64 n] (aN n v).pv:=by
 intro n
 induction n using Nat.strongRecOn with
 | _ n ih=>exact fun hn v hv=>Bv n hn (fun m v hmn=>ih m hmn (by omega) v) v hv
open Nat renaming reduceEqDiff->qa,reduceAdd->qb,reduceMul->qc,reduceLeDiff->qd,reduceLT->qe,reduceBEq->qf,reduceSub->qg
open Int renaming reduceToNat->qh,reduceNeg->qi
section
variable {on:Prop}[Decidable on]{len k m:Nat}
def fJ (on:Prop)[Decidable on](len k:Nat):Nat:=if on then min len k else 0
theorem fo {α:Type}(l:List α)(k:Nat):l.take (fJ on l.length k)=if on then l.take k else []:=by
 unfold fJ
 split
 ·rw[Nat.min_comm,<- List.take_take,List.take_of_length_le (Nat.le_refl _)]
 ·simp
theorem fq (hm:m<=fJ on len k)(h:¬ (m<len/\m<k/\on)):m=fJ on len k:=by
 unfold fJ at hm ⊢
 by_cases h1:on
 ·rw[if_pos h1] at hm ⊢
  have:¬ (m<len/\m<k):=fun hh=>h ⟨hh.1,hh.2,h1⟩
  omega
 ·rw[if_neg h1] at hm ⊢;omega
theorem fp (hm:m<=fJ on len k)(h:m<len/\m<k/\on):m+1<=fJ on len k:=by
 unfold fJ at hm ⊢
 rw[if_pos h.2.2] at hm ⊢;omega
end
def cg (rec:Typ->Typ):TFd->TFd
 | .mk a b c t d=>.mk a (b.take 40) c (rec t) ((d.take 2).map (aN 3))
def cR (rec:Typ->Typ)(on:Bool):Typ->Typ
 | .mk k a b c w e f=>.mk k a b c ((w.take 6).map (List.take 40)) (if on then (e.take 2).map rec else []) (if on then (f.take 6).map (cg rec) else [])
def aZ:Nat->Typ->Typ
 | 0=>cR id false
 | n+1=>cR (aZ n) (decide (0<n))
theorem Bw (n:Nat)(hn:n<=1000)(ih:∀ m v,m<n->v.ok->ae Tryz.prog au 31 [v.pv,.int .i64 m] (aZ m v).pv)(v:Typ)(hv:v.ok):ae Tryz.prog au 31 [v.pv,.int .i64 n] (aZ n v).pv:=by
 obtain⟨k,a,b,c,w,e,f⟩:=v
 rw[Typ.ok_mk] at hv
 obtain⟨h1,h2,h3,h4,h5,h6,h7,h8,h9,h10⟩:=hv
 refine ae.intro Q31.2 (by simp[Q31]) ?_
 simp(maxSteps:=9^7) (disch:=try exact dI) only[Q31,Typ.pv_mk,push_cast,↓reduceIte,qa,qb,qc,qd,qe,qf,qg,qh,qi]
 refine iu ([(5,0,9,1)]) (fun m:Nat=>[(5,.olist 2 1 (((w.take m).map (List.take 40)).map PV.str)),(8,.pv (.int .i64 (m:Int)))]) (fun _=>[]) (fun m=>m<=fJ True w.length 6) (fun m=>6 - m) (0) ([1,2,4,5,6,7]) (fun m=>m=fJ True w.length 6) ?_;intro e0 σ0 n0 h0;simp(maxSteps:=9^7) (disch:=try exact dI) only[push_cast,↓reduceIte,qa,qb,qc,qd,qe,qf,qg,qh,qi] at h0;obtain⟨rfl,rfl,rfl⟩:=h0;refine⟨?_,?_,?_,?_⟩
 ·simp(maxSteps:=9^7) (disch:=try exact dI) only[push_cast,↓reduceIte,qa,qb,qc,qd,qe,qf,qg,qh,qi]
 ·omega
 ·intro m hm
  by_cases hgo:m<w.length/\m<6/\True
  ·obtain⟨g1,g2,_⟩:=hgo
   have g1I:(m:Int)<w.length:=by omega
   have g2I:(m:Int)<6:=by omega
   obtain⟨x,hx⟩:∃ x,w[m]? = some x:=⟨_,List.getElem?_eq_getElem g1⟩
   have hts:=aG hx
   simp(maxSteps:=9^7) (disch:=try exact dI) only[hx,push_cast,↓reduceIte,qa,qb,qc,qd,qe,qf,qg,qh,qi]
   have hnx:=fp hm ⟨g1,g2,trivial⟩
   exact⟨m+1,aR (by simp(maxSteps:=9^7) (disch:=try exact dI) only[hts,List.map_append,push_cast,↓reduceIte,qa,qb,qc,qd,qe,qf,qg,qh,qi]),hnx,by omega⟩
  ·have hm':=fq hm hgo
   have hexit:¬ m<w.length\/(m<w.length/\¬ m<6):=(Nat.lt_or_ge m w.length).elim (fun h=>.inr ⟨h,fun h6=>hgo ⟨h,h6,trivial⟩⟩) (fun h=>.inl (by omega))
   rcases hexit with g1 | ⟨g1,g2⟩
   ·have g1I:¬ (m:Int)<w.length:=by omega
    simp(maxSteps:=9^7) (disch:=try exact dI) only[push_cast,↓reduceIte,qa,qb,qc,qd,qe,qf,qg,qh,qi]
    exact⟨m,hm',by simp(maxSteps:=9^7) (disch:=try exact dI) only[push_cast,↓reduceIte,qa,qb,qc,qd,qe,qf,qg,qh,qi]⟩
   ·have g1I:(m:Int)<w.length:=by omega
    have g2I:¬ (m:Int)<6:=by omega
    simp(maxSteps:=9^7) (disch:=try exact dI) only[push_cast,↓reduceIte,qa,qb,qc,qd,qe,qf,qg,qh,qi]
    exact⟨m,hm',by simp(maxSteps:=9^7) (disch:=try exact dI) only[push_cast,↓reduceIte,qa,qb,qc,qd,qe,qf,qg,qh,qi]⟩
 ·intro m hm s1 hs1;simp(maxSteps:=9^7) (disch:=try exact dI) only[push_cast,↓reduceIte,qa,qb,qc,qd,qe,qf,qg,qh,qi] at hs1;subst hs1
  have hw:(w.take m).map (List.take 40)=(w.take 6).map (List.take 40):=by rw[hm,fo,if_pos trivial]
  rw[hw]
  obtain⟨W,hW⟩:∃ W,W=(w.take 6).map (List.take 40):=⟨_,rfl⟩
  rw[<- hW]
  clear hw hm
  simp(maxSteps:=9^7) (disch:=try exact dI) only[push_cast,↓reduceIte,qa,qb,qc,qd,qe,qf,qg,qh,qi]
  refine iu ([(6,0,26,7)]) (fun m:Nat=>[(6,.olist 3 7 (((e.take m).map (aZ (n - 1))).map Typ.pv)),(9,.pv (.int .i64 (m:Int)))]) (fun _=>[]) (fun m=>m<=fJ (1<n) e.length 2) (fun m=>2 - m) (0) ([1,2,4,5,6,7]) (fun m=>m=fJ (1<n) e.length 2) ?_;intro e0 σ0 n0 h0;simp(maxSteps:=9^7) (disch:=try exact dI) only[push_cast,↓reduceIte,qa,qb,qc,qd,qe,qf,qg,qh,qi] at h0;obtain⟨rfl,rfl,rfl⟩:=h0;refine⟨?_,?_,?_,?_⟩
  ·simp(maxSteps:=9^7) (disch:=try exact dI) only[push_cast,↓reduceIte,qa,qb,qc,qd,qe,qf,qg,qh,qi]
  ·omega
  ·intro m hm
   by_cases hgo:m<e.length/\m<2/\1<n
   ·have hgo':=hgo
    obtain⟨g1,g2,g3⟩:=hgo
    have g1I:(m:Int)<e.length:=by omega
    have g2I:(m:Int)<2:=by omega
    have g3I:(1:Int)<n:=by omega
    obtain⟨x,hx⟩:∃ x,e[m]? = some x:=⟨_,List.getElem?_eq_getElem g1⟩
    obtain⟨n',rfl⟩:∃ n',n=n'+1:=⟨n - 1,by omega⟩
    have hts:=aG hx
    simp(maxSteps:=9^7) (disch:=try exact dI) only[hx,Typ.cells_len,Typ.isAgg,Nat.add_sub_cancel,Int.add_sub_cancel,push_cast,↓reduceIte,qa,qb,qc,qd,qe,qf,qg,qh,qi]
    refine ab.pure (ih n' x (by omega) (h8 x (List.mem_of_getElem? hx))) rfl ?_
    simp(maxSteps:=9^7) (disch:=try exact dI) only[Typ.cells_len,Typ.ones,push_cast,↓reduceIte,qa,qb,qc,qd,qe,qf,qg,qh,qi]
    exact⟨m+1,aR (by simp(maxSteps:=9^7) (disch:=try exact dI) only[hts,List.map_append,push_cast,↓reduceIte,qa,qb,qc,qd,qe,qf,qg,qh,qi]),fp hm hgo',by omega⟩
   ·have hm':=fq hm hgo
    have hexit:¬ m<e.length\/(m<e.length/\¬ m<2)\/(m<e.length/\m<2/\¬ 1<n):=by omega
    rcases hexit with g1 | ⟨g1,g2⟩ | ⟨g1,g2,g3⟩
    ·have g1I:¬ (m:Int)<e.length:=by omega
     simp(maxSteps:=9^7) (disch:=try exact dI) only[push_cast,↓reduceIte,qa,qb,qc,qd,qe,qf,qg,qh,qi]
     exact⟨m,hm',by simp(maxSteps:=9^7) (disch:=try exact dI) only[push_cast,↓reduceIte,qa,qb,qc,qd,qe,qf,qg,qh,qi]⟩
    ·have g1I:(m:Int)<e.length:=by omega
     have g2I:¬ (m:Int)<2:=by omega
     simp(maxSteps:=9^7) (disch:=try exact dI) only[push_cast,↓reduceIte,qa,qb,qc,qd,qe,qf,qg,qh,qi]
     exact⟨m,hm',by simp(maxSteps:=9^7) (disch:=try exact dI) only[push_cast,↓reduceIte,qa,qb,qc,qd,qe,qf,qg,qh,qi]⟩
    ·have g1I:(m:Int)<e.length:=by omega
     have g2I:(m:Int)<2:=by omega
     have g3I:¬ (1:Int)<n:=by omega
     simp(maxSteps:=9^7) (disch:=try exact dI) only[push_cast,↓reduceIte,qa,qb,qc,qd,qe,qf,qg,qh,qi]
     exact⟨m,hm',by simp(maxSteps:=9^7) (disch:=try exact dI) only[push_cast,↓reduceIte,qa,qb,qc,qd,qe,qf,qg,qh,qi]⟩
  ·intro m hm s1 hs1;simp(maxSteps:=9^7) (disch:=try exact dI) only[push_cast,↓reduceIte,qa,qb,qc,qd,qe,qf,qg,qh,qi] at hs1;subst hs1
   have he:(e.take m).map (aZ (n - 1))=if decide (1<n)=true then (e.take 2).map (aZ (n - 1)) else []:=by
    rw[hm,fo];by_cases h:1<n<;>simp[h]
   obtain⟨E,hE⟩:∃ E,E=(e.take m).map (aZ (n - 1)):=⟨_,rfl⟩
   rw[<- hE] at he ⊢
   clear hE hm
   simp(maxSteps:=9^7) (disch:=try exact dI) only[push_cast,↓reduceIte,qa,qb,qc,qd,qe,qf,qg,qh,qi]
   refine iu ([(7,0,98,11)]) (fun m:Nat=>[(7,.olist 4 11 (((f.take m).map (cg (aZ (n - 1)))).map TFd.pv)),(10,.pv (.int .i64 (m:Int)))]) (fun _=>[]) (fun m=>m<=fJ (1<n) f.length 6) (fun m=>6 - m) (0) ([2,4,5,6,7]) (fun m=>m=fJ (1<n) f.length 6) ?_;intro e0 σ0 n0 h0;simp(maxSteps:=9^7) (disch:=try exact dI) only[push_cast,↓reduceIte,qa,qb,qc,qd,qe,qf,qg,qh,qi] at h0;obtain⟨rfl,rfl,rfl⟩:=h0;refine⟨?_,?_,?_,?_⟩
   ·simp(maxSteps:=9^7) (disch:=try exact dI) only[push_cast,↓reduceIte,qa,qb,qc,qd,qe,qf,qg,qh,qi]
   ·omega
   ·intro m hm
    by_cases hgo:m<f.length/\m<6/\1<n
    ·have hgo':=hgo
     obtain⟨g1,g2,g3⟩:=hgo
     have g1I:(m:Int)<f.length:=by omega
     have g2I:(m:Int)<6:=by omega
     have g3I:(1:Int)<n:=by omega
     obtain⟨x,hx⟩:∃ x,f[m]? = some x:=⟨_,List.getElem?_eq_getElem g1⟩
     have hxo:=h10 x (List.mem_of_getElem? hx)
     obtain⟨nu,nm,ne,ty,df⟩:=x
     rw[TFd.ok_mk] at hxo
     obtain⟨n',rfl⟩:∃ n',n=n'+1:=⟨n - 1,by omega⟩
     have hcall:=ih n' ty (by omega) hxo.2.2.2.1
     have hdl:df.length<=9223372036854775807:=by have:=hxo.2.2.2.2.1;omega
     have hdo:=hxo.2.2.2.2.2
     have hts:=aG hx
     obtain⟨w1,w2,w3,w4,w5,w6,w7⟩:=ty
     rw[Typ.pv_mk] at hcall
     obtain⟨cs,hcs,hcl,hco⟩:=Typ.row (aZ n' (.mk w1 w2 w3 w4 w5 w6 w7))
     have hone:cs.all PV.one=true:=List.all_eq_true.2 hco
     rw[hcs] at hcall
     obtain⟨u1,u2,u3,u4,u5,u6,u7,rfl⟩:=MI hcl
     simp only[List.all_cons,List.all_nil,Bool.and_true,Bool.and_eq_true] at hone
     obtain⟨o1,o2,o3,o4,o5,o6,o7⟩:=hone
     simp(maxSteps:=9^7) (disch:=try exact dI) only[hx,TFd.pv_mk,Typ.pv_mk,Nat.add_sub_cancel,Int.add_sub_cancel,push_cast,↓reduceIte,qa,qb,qc,qd,qe,qf,qg,qh,qi]
     refine iu ([(12,0,31,6)]) (fun q:Nat=>[(12,.olist 6 6 (((df.take q).map (aN 3)).map Val.pv)),(13,.pv (.int .i64 (q:Int)))]) (fun _=>[]) (fun q=>q<=fJ True df.length 2) (fun q=>2 - q) (0) ([1,2,4,5,6,7,10,11,12]) (fun q=>q=fJ True df.length 2) ?_;intro e0 σ0 n0 h0;simp(maxSteps:=9^7) (disch:=try exact dI) only[push_cast,↓reduceIte,qa,qb,qc,qd,qe,qf,qg,qh,qi] at h0;obtain⟨rfl,rfl,rfl⟩:=h0;refine⟨?_,?_,?_,?_⟩
     ·simp(maxSteps:=9^7) (disch:=try exact dI) only[push_cast,↓reduceIte,qa,qb,qc,qd,qe,qf,qg,qh,qi]
     ·omega
     ·intro q hq
      by_cases hgq:q<df.length/\q<2/\True
      ·obtain⟨k1,k2,_⟩:=hgq
       have k1I:(q:Int)<df.length:=by omega
       have k2I:(q:Int)<2:=by omega
       obtain⟨y,hy⟩:∃ y,df[q]? = some y:=⟨_,List.getElem?_eq_getElem k1⟩
       have htq:=aG hy
       simp(maxSteps:=9^7) (disch:=try exact dI) only[hy,Val.cells_len,Val.isAgg,push_cast,↓reduceIte,qa,qb,qc,qd,qe,qf,qg,qh,qi]
       refine ab.pure (rU 3 (by omega) y (hdo y (List.mem_of_getElem? hy))) rfl ?_
       simp(maxSteps:=9^7) (disch:=try exact dI) only[Val.cells_len,Val.ones,push_cast,↓reduceIte,qa,qb,qc,qd,qe,qf,qg,qh,qi]
       have hnx:=fp hq ⟨k1,k2,trivial⟩
       exact⟨q+1,aR (by simp(maxSteps:=9^7) (disch:=try exact dI) only[htq,List.map_append,push_cast,↓reduceIte,qa,qb,qc,qd,qe,qf,qg,qh,qi]),hnx,by omega⟩
      ·have hq':=fq hq hgq
       have hexit:¬ q<df.length\/(q<df.length/\¬ q<2):=(Nat.lt_or_ge q df.length).elim (fun h=>.inr ⟨h,fun h6=>hgq ⟨h,h6,trivial⟩⟩) (fun h=>.inl (by omega))
       rcases hexit with k1 | ⟨k1,k2⟩
       ·have k1I:¬ (q:Int)<df.length:=by omega
        simp(maxSteps:=9^7) (disch:=try exact dI) only[push_cast,↓reduceIte,qa,qb,qc,qd,qe,qf,qg,qh,qi]
        exact⟨q,hq',by simp(maxSteps:=9^7) (disch:=try exact dI) only[push_cast,↓reduceIte,qa,qb,qc,qd,qe,qf,qg,qh,qi]⟩
       ·have k1I:(q:Int)<df.length:=by omega
        have k2I:¬ (q:Int)<2:=by omega
        simp(maxSteps:=9^7) (disch:=try exact dI) only[push_cast,↓reduceIte,qa,qb,qc,qd,qe,qf,qg,qh,qi]
        exact⟨q,hq',by simp(maxSteps:=9^7) (disch:=try exact dI) only[push_cast,↓reduceIte,qa,qb,qc,qd,qe,qf,qg,qh,qi]⟩
     ·intro q hq s1 hs1;simp(maxSteps:=9^7) (disch:=try exact dI) only[push_cast,↓reduceIte,qa,qb,qc,qd,qe,qf,qg,qh,qi] at hs1;subst hs1
      have hd:(df.take q).map (aN 3)=(df.take 2).map (aN 3):=by rw[hq,fo,if_pos trivial]
      rw[hd]
      simp(maxSteps:=9^7) (disch:=try exact dI) only[Nat.add_sub_cancel,Int.add_sub_cancel,push_cast,↓reduceIte,qa,qb,qc,qd,qe,qf,qg,qh,qi]
      refine ag hcall rfl ?_
      simp(maxSteps:=9^7) (disch:=try exact dI) only[o1,o2,o3,o4,o5,o6,o7,push_cast,↓reduceIte,qa,qb,qc,qd,qe,qf,qg,qh,qi]
      exact⟨m+1,aR (by simp(maxSteps:=9^7) (disch:=try exact dI) only[hts,List.map_append,cg,TFd.pv_mk,hcs,push_cast,↓reduceIte,qa,qb,qc,qd,qe,qf,qg,qh,qi]),fp hm hgo',by omega⟩
    ·have hm':=fq hm hgo
     have hexit:¬ m<f.length\/(m<f.length/\¬ m<6)\/(m<f.length/\m<6/\¬ 1<n):=by omega
     rcases hexit with g1 | ⟨g1,g2⟩ | ⟨g1,g2,g3⟩
     ·have g1I:¬ (m:Int)<f.length:=by omega
      simp(maxSteps:=9^7) (disch:=try exact dI) only[push_cast,↓reduceIte,qa,qb,qc,qd,qe,qf,qg,qh,qi]
      exact⟨m,hm',by simp(maxSteps:=9^7) (disch:=try exact dI) only[push_cast,↓reduceIte,qa,qb,qc,qd,qe,qf,qg,qh,qi]⟩
     ·have g1I:(m:Int)<f.length:=by omega
      have g2I:¬ (m:Int)<6:=by omega
      simp(maxSteps:=9^7) (disch:=try exact dI) only[push_cast,↓reduceIte,qa,qb,qc,qd,qe,qf,qg,qh,qi]
      exact⟨m,hm',by simp(maxSteps:=9^7) (disch:=try exact dI) only[push_cast,↓reduceIte,qa,qb,qc,qd,qe,qf,qg,qh,qi]⟩
     ·have g1I:(m:Int)<f.length:=by omega
      have g2I:(m:Int)<6:=by omega
      have g3I:¬ (1:Int)<n:=by omega
      simp(maxSteps:=9^7) (disch:=try exact dI) only[push_cast,↓reduceIte,qa,qb,qc,qd,qe,qf,qg,qh,qi]
      exact⟨m,hm',by simp(maxSteps:=9^7) (disch:=try exact dI) only[push_cast,↓reduceIte,qa,qb,qc,qd,qe,qf,qg,qh,qi]⟩
   ·intro q hq s1 hs1;simp(maxSteps:=9^7) (disch:=try exact dI) only[push_cast,↓reduceIte,qa,qb,qc,qd,qe,qf,qg,qh,qi] at hs1;subst hs1
    have hf:(f.take q).map (cg (aZ (n - 1)))=if decide (1<n)=true then (f.take 6).map (cg (aZ (n - 1))) else []:=by
     rw[hq,fo];by_cases h:1<n<;>simp[h]
    have hfin:(aZ n (.mk k a b c w e f)).pv = .agg [.int .i64 k,.int .i64 a,.int .i64 b,.int .i64 c,.list (W.map PV.str),.list (E.map Typ.pv),.list (((f.take q).map (cg (aZ (n - 1)))).map TFd.pv)]:=by
     rw[he,hf,hW]
     cases n with
     | zero=>simp[aZ,cR,Typ.pv_mk]
     | succ n=>simp[aZ,cR,Typ.pv_mk]
    rw[hfin]
    simp(maxSteps:=9^7) (disch:=try exact dI) only[push_cast,↓reduceIte,qa,qb,qc,qd,qe,qf,qg,qh,qi]
theorem rW:∀ (n:Nat) (hn:n<=1000) (v:Typ),v.ok->ae Tryz.prog au 31 [v.pv,.int .i64 n] (aZ n v).pv:=by
 intro n
 induction n using Nat.strongRecOn with
 | _ n ih=>exact fun hn v hv=>Bw n hn (fun m v hmn=>ih m hmn (by omega) v) v hv
end Go.Proofs.YtbaaokocnegdoaaGreatDoor
