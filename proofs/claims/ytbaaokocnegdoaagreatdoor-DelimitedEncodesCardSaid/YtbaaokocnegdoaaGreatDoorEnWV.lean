/- A part. -/
import Derived.Test.YtbaaokocnegdoaaGreatDoorEnVC25
set_option linter.unusedVariables false
set_option linter.unusedSimpArgs false
set_option maxHeartbeats 16000000
set_option maxRecDepth 100000
open List renaming getElem?_eq_getElem->Vg,mem_of_getElem?->Vk,map_append->VI,take_of_length_le->VC,all_eq_true->VM,take->Wt,length_take->Vs
open Nat renaming add_sub_cancel->V5,le_refl->Vw,lt_or_ge->WJ
open Int renaming add_sub_cancel->VD
namespace Go.Proofs.YtbaaokocnegdoaaGreatDoor
open Go Go.Ab
def fg (rec:Val->Val):Fld->Fld
 | .mk n v=>.mk (n.take 40) (rec v)
def cE (rec:Val->Val)(on:Bool):Val->Val
 | .mk k i s t l f=>.mk k i s (t.take 40) (if on then (l.take 6).map rec else []) (if on then (f.take 6).map (fg rec) else [])
def aJ:Nat->Val->Val
 | 0=>cE id false
 | n+1=>cE (aJ n) (decide (0<n))
def AM (on:Prop)[Decidable on](len:Nat):Nat:=if on then min len 6 else 0
theorem BQ (n:Nat)(hn:n<=1000)(ih:∀ m v,m<n->v.ok->ae Tryz.prog aq 19 [v.pv,.int .i64 m] (aJ m v).pv)(v:Val)(hv:v.ok):ae Tryz.prog aq 19 [v.pv,.int .i64 n] (aJ n v).pv:=by
 obtain⟨k,i,s,t,l,f⟩:=v
 rw[Ve] at hv
 obtain⟨h1,h2,h3,h4,h5,h7,h6,h8⟩:=hv
 refine ae.intro Q19.2 (by simp[Q19]) ?_
 simp(disch:=try exact dI) only[Q19,Vf,push_cast,seval]
 refine gP ([(5,0,31,6)]) (fun m:Nat=>[(5,.olist 2 6 (((l.take m).map (aJ (n - 1))).map Val.pv)),(7,.pv (.int .i64 (m:Int)))]) (fun _=>[]) (fun m=>m<=AM (1<n) l.length) (fun m=>6 - m) (0) ([1,2,4,5,6]) (fun m=>m=AM (1<n) l.length) ?_;intro e0 σ0 n0 h0;simp(disch:=try exact dI) only[push_cast,seval] at h0;obtain⟨rfl,rfl,rfl⟩:=h0;refine⟨?_,?_,?_,?_⟩
 ·exact qsZ
 ·omega
 ·intro m hm
  by_cases hgo:m<l.length/\m<6/\1<n
  ·obtain⟨g1,g2,g3⟩:=hgo
   have g1I:(m:Int)<l.length:=by omega
   have g2I:(m:Int)<6:=by omega
   have g3I:(1:Int)<n:=by omega
   obtain⟨x,hx⟩:∃ x,l[m]? = some x:=⟨_,Vg g1⟩
   obtain⟨n',rfl⟩:∃ n',n=n'+1:=⟨n - 1,by omega⟩
   have hts:=aD hx
   simp(disch:=try exact dI) only[hx,Val.cells_len,Val.isAgg,V5,VD,push_cast,seval]
   refine ab.pure (ih n' x (by omega) (h7 x (Vk hx))) rfl ?_
   simp(disch:=try exact dI) only[Val.cells_len,Val.ones,push_cast,seval]
   exact⟨m+1,aI (by simp(disch:=try exact dI) only[hts,VI,push_cast,seval]),by simp only[AM,if_pos g3] at hm ⊢;omega,by omega⟩
  ·have hm':m=AM (1<n) l.length:=by unfold AM at hm ⊢;split at hm<;>rename_i h1<;>(try rw[if_pos h1])<;>(try rw[if_neg h1])<;>omega
   have hexit:¬ m<l.length\/(m<l.length/\¬ m<6)\/(m<l.length/\m<6/\¬ 1<n):=by omega
   rcases hexit with g1 | ⟨g1,g2⟩ | ⟨g1,g2,g3⟩
   ·have g1I:¬ (m:Int)<l.length:=by omega
    refine zgZ ?_
    exact⟨m,hm',qsZ⟩
   ·have g1I:(m:Int)<l.length:=by omega
    have g2I:¬ (m:Int)<6:=by omega
    refine zgZ ?_
    exact⟨m,hm',qsZ⟩
   ·have g1I:(m:Int)<l.length:=by omega
    have g2I:(m:Int)<6:=by omega
    have g3I:¬ (1:Int)<n:=by omega
    refine zgZ ?_
    exact⟨m,hm',qsZ⟩
 ·intro m hm s1 hs1;simp(disch:=try exact dI) only[push_cast,seval] at hs1;subst hs1
  have hl:(l.take m).map (aJ (n - 1))=if decide (1<n)=true then (l.take 6).map (aJ (n - 1)) else []:=by
   subst hm;unfold AM
   by_cases h:1<n
   ·simp only[h,decide_true,if_true];rw[Nat.min_comm,<- List.take_take,VC (Vw _)]
   ·simp[h]
  obtain⟨LL,hLL⟩:∃ LL,LL=(l.take m).map (aJ (n - 1)):=⟨_,rfl⟩
  rw[<- hLL] at hl ⊢
  clear hLL
  refine zgZ ?_
  refine gP ([(6,0,83,7)]) (fun m:Nat=>[(6,.olist 3 7 (((f.take m).map (fg (aJ (n - 1)))).map Fld.pv)),(8,.pv (.int .i64 (m:Int)))]) (fun _=>[]) (fun m=>m<=AM (1<n) f.length) (fun m=>6 - m) (0) ([2,4,5,6]) (fun m=>m=AM (1<n) f.length) ?_;intro e0 σ0 n0 h0;simp(disch:=try exact dI) only[push_cast,seval] at h0;obtain⟨rfl,rfl,rfl⟩:=h0;refine⟨?_,?_,?_,?_⟩
  ·exact qsZ
  ·omega
  ·intro m hm
   by_cases hgo:m<f.length/\m<6/\1<n
   ·obtain⟨g1,g2,g3⟩:=hgo
    have g1I:(m:Int)<f.length:=by omega
    have g2I:(m:Int)<6:=by omega
    have g3I:(1:Int)<n:=by omega
    obtain⟨x,hx⟩:∃ x,f[m]? = some x:=⟨_,Vg g1⟩
    have hxo:=h8 x (Vk hx)
    obtain⟨nm,vv⟩:=x
    rw[U2] at hxo
    obtain⟨n',rfl⟩:∃ n',n=n'+1:=⟨n - 1,by omega⟩
    have hcall:=ih n' vv (by omega) hxo.2
    have hts:=aD hx
    obtain⟨w1,w2,w3,w4,w5,w6⟩:=vv
    rw[Vf] at hcall
    have hlen:=Fld.cells_len (.mk nm (.mk w1 w2 w3 w4 w5 w6))
    rw[U3,Vf] at hlen
    obtain⟨cs,hcs,hcl,hco⟩:=Val.row (aJ n' (.mk w1 w2 w3 w4 w5 w6))
    have hone:cs.all PV.one=true:=VM.2 hco
    rw[hcs] at hcall
    obtain⟨u1,u2,u3,u4,u5,u6,rfl⟩:=Qa hcl
    simp only[List.all_cons,List.all_nil,Bool.and_true,Bool.and_eq_true] at hone
    obtain⟨o1,o2,o3,o4,o5,o6⟩:=hone
    simp(disch:=try exact dI) only[hx,U3,Vf,V5,VD,push_cast,seval]
    refine ak hcall rfl ?_
    simp(disch:=try exact dI) only[o1,o2,o3,o4,o5,o6,push_cast,seval]
    exact⟨m+1,aI (by simp(disch:=try exact dI) only[hts,VI,fg,U3,hcs,push_cast,seval]),by simp only[AM,if_pos g3] at hm ⊢;omega,by omega⟩
   ·have hm':m=AM (1<n) f.length:=by unfold AM at hm ⊢;split at hm<;>rename_i h1<;>(try rw[if_pos h1])<;>(try rw[if_neg h1])<;>omega
    have hexit:¬ m<f.length\/(m<f.length/\¬ m<6)\/(m<f.length/\m<6/\¬ 1<n):=by omega
    rcases hexit with g1 | ⟨g1,g2⟩ | ⟨g1,g2,g3⟩
    ·have g1I:¬ (m:Int)<f.length:=by omega
     refine zgZ ?_
     exact⟨m,hm',qsZ⟩
    ·have g1I:(m:Int)<f.length:=by omega
     have g2I:¬ (m:Int)<6:=by omega
     refine zgZ ?_
     exact⟨m,hm',qsZ⟩
    ·have g1I:(m:Int)<f.length:=by omega
     have g2I:(m:Int)<6:=by omega
     have g3I:¬ (1:Int)<n:=by omega
     refine zgZ ?_
     exact⟨m,hm',qsZ⟩
  ·intro q hq s1 hs1;simp(disch:=try exact dI) only[push_cast,seval] at hs1;subst hs1
   have hf:(f.take q).map (fg (aJ (n - 1)))=if decide (1<n)=true then (f.take 6).map (fg (aJ (n - 1))) else []:=by
    subst hq;unfold AM
    by_cases h:1<n
    ·simp only[h,decide_true,if_true];rw[Nat.min_comm,<- List.take_take,VC (Vw _)]
    ·simp[h]
   have hfin:(aJ n (.mk k i s t l f)).pv = .agg [.int .i64 k,.int .i64 i,.int .i64 s,.str (t.take 40),.list (LL.map Val.pv),.list (((f.take q).map (fg (aJ (n - 1)))).map Fld.pv)]:=by
    rw[hl,hf]
    cases n with
    | zero=>simp[aJ,cE,Vf]
    | succ n=>simp[aJ,cE,Vf]
   rw[hfin]
   exact qsZ
theorem lm:∀ (n:Nat) (hn:n<=1000) (v:Val),v.ok->ae Tryz.prog aq 19 [v.pv,.int .i64 n] (aJ n v).pv:=by
 intro n
 induction n using Nat.strongRecOn with
 | _ n ih=>exact fun hn v hv=>BQ n hn (fun m v hmn=>ih m hmn (by omega) v) v hv
open Nat renaming reduceEqDiff->qa,reduceAdd->qb,reduceMul->qc,reduceLeDiff->qd,reduceLT->qe,reduceBEq->qf,reduceSub->qg
open Int renaming reduceToNat->qh,reduceNeg->qi
section
variable {on:Prop}[Decidable on]{len k m:Nat}
def gB (on:Prop)[Decidable on](len k:Nat):Nat:=if on then min len k else 0
theorem f0 {α:Type}(l:List α)(k:Nat):l.take (gB on l.length k)=if on then l.take k else []:=by
 unfold gB
 split
 ·rw[Nat.min_comm,<- List.take_take,VC (Vw _)]
 ·simp
theorem f8 (hm:m<=gB on len k)(h:¬ (m<len/\m<k/\on)):m=gB on len k:=by
 unfold gB at hm ⊢
 by_cases h1:on
 ·rw[if_pos h1] at hm ⊢
  have:¬ (m<len/\m<k):=fun hh=>h ⟨hh.1,hh.2,h1⟩
  omega
 ·rw[if_neg h1] at hm ⊢;omega
theorem f7 (hm:m<=gB on len k)(h:m<len/\m<k/\on):m+1<=gB on len k:=by
 unfold gB at hm ⊢
 rw[if_pos h.2.2] at hm ⊢;omega
end
def cG (rec:Typ->Typ):TFd->TFd
 | .mk a b c t d=>.mk a (b.take 40) c (rec t) ((d.take 2).map (aJ 3))
def dz (rec:Typ->Typ)(on:Bool):Typ->Typ
 | .mk k a b c w e f=>.mk k a b c ((w.take 6).map (Wt 40)) (if on then (e.take 2).map rec else []) (if on then (f.take 6).map (cG rec) else [])
def a8:Nat->Typ->Typ
 | 0=>dz id false
 | n+1=>dz (a8 n) (decide (0<n))
theorem BR (n:Nat)(hn:n<=1000)(ih:∀ m v,m<n->v.ok->ae Tryz.prog aq 31 [v.pv,.int .i64 m] (a8 m v).pv)(v:Typ)(hv:v.ok):ae Tryz.prog aq 31 [v.pv,.int .i64 n] (a8 n v).pv:=by
 obtain⟨k,a,b,c,w,e,f⟩:=v
 rw[Vc] at hv
 obtain⟨h1,h2,h3,h4,h5,h6,h7,h8,h9,h10⟩:=hv
 refine ae.intro Q31.2 (by simp[Q31]) ?_
 simp(maxSteps:=9^7) (disch:=try exact dI) only[Q31,Vd,push_cast,↓reduceIte,qa,qb,qc,qd,qe,qf,qg,qh,qi]
 refine gP ([(5,0,9,1)]) (fun m:Nat=>[(5,.olist 2 1 (((w.take m).map (Wt 40)).map PV.str)),(8,.pv (.int .i64 (m:Int)))]) (fun _=>[]) (fun m=>m<=gB True w.length 6) (fun m=>6 - m) (0) ([1,2,4,5,6,7]) (fun m=>m=gB True w.length 6) ?_;intro e0 σ0 n0 h0;simp(maxSteps:=9^7) (disch:=try exact dI) only[push_cast,↓reduceIte,qa,qb,qc,qd,qe,qf,qg,qh,qi] at h0;obtain⟨rfl,rfl,rfl⟩:=h0;refine⟨?_,?_,?_,?_⟩
 ·simp(maxSteps:=9^7) (disch:=try exact dI) only[push_cast,↓reduceIte,qa,qb,qc,qd,qe,qf,qg,qh,qi]
 ·omega
 ·intro m hm
  by_cases hgo:m<w.length/\m<6/\True
  ·obtain⟨g1,g2,_⟩:=hgo
   have g1I:(m:Int)<w.length:=by omega
   have g2I:(m:Int)<6:=by omega
   obtain⟨x,hx⟩:∃ x,w[m]? = some x:=⟨_,Vg g1⟩
   have hts:=aD hx
   simp(maxSteps:=9^7) (disch:=try exact dI) only[hx,push_cast,↓reduceIte,qa,qb,qc,qd,qe,qf,qg,qh,qi]
   have hnx:=f7 hm ⟨g1,g2,trivial⟩
   exact⟨m+1,aI (by simp(maxSteps:=9^7) (disch:=try exact dI) only[hts,VI,push_cast,↓reduceIte,qa,qb,qc,qd,qe,qf,qg,qh,qi]),hnx,by omega⟩
  ·have hm':=f8 hm hgo
   have hexit:¬ m<w.length\/(m<w.length/\¬ m<6):=(WJ m w.length).elim (fun h=>.inr ⟨h,fun h6=>hgo ⟨h,h6,trivial⟩⟩) (fun h=>.inl (by omega))
   rcases hexit with g1 | ⟨g1,g2⟩
   ·have g1I:¬ (m:Int)<w.length:=by omega
    simp(maxSteps:=9^7) (disch:=try exact dI) only[push_cast,↓reduceIte,qa,qb,qc,qd,qe,qf,qg,qh,qi]
    exact⟨m,hm',by simp(maxSteps:=9^7) (disch:=try exact dI) only[push_cast,↓reduceIte,qa,qb,qc,qd,qe,qf,qg,qh,qi]⟩
   ·have g1I:(m:Int)<w.length:=by omega
    have g2I:¬ (m:Int)<6:=by omega
    simp(maxSteps:=9^7) (disch:=try exact dI) only[push_cast,↓reduceIte,qa,qb,qc,qd,qe,qf,qg,qh,qi]
    exact⟨m,hm',by simp(maxSteps:=9^7) (disch:=try exact dI) only[push_cast,↓reduceIte,qa,qb,qc,qd,qe,qf,qg,qh,qi]⟩
 ·intro m hm s1 hs1;simp(maxSteps:=9^7) (disch:=try exact dI) only[push_cast,↓reduceIte,qa,qb,qc,qd,qe,qf,qg,qh,qi] at hs1;subst hs1
  have hw:(w.take m).map (Wt 40)=(w.take 6).map (Wt 40):=by rw[hm,f0,if_pos trivial]
  rw[hw]
  obtain⟨W,hW⟩:∃ W,W=(w.take 6).map (Wt 40):=⟨_,rfl⟩
  rw[<- hW]
  clear hw hm
  simp(maxSteps:=9^7) (disch:=try exact dI) only[push_cast,↓reduceIte,qa,qb,qc,qd,qe,qf,qg,qh,qi]
  refine gP ([(6,0,26,7)]) (fun m:Nat=>[(6,.olist 3 7 (((e.take m).map (a8 (n - 1))).map Typ.pv)),(9,.pv (.int .i64 (m:Int)))]) (fun _=>[]) (fun m=>m<=gB (1<n) e.length 2) (fun m=>2 - m) (0) ([1,2,4,5,6,7]) (fun m=>m=gB (1<n) e.length 2) ?_;intro e0 σ0 n0 h0;simp(maxSteps:=9^7) (disch:=try exact dI) only[push_cast,↓reduceIte,qa,qb,qc,qd,qe,qf,qg,qh,qi] at h0;obtain⟨rfl,rfl,rfl⟩:=h0;refine⟨?_,?_,?_,?_⟩
  ·simp(maxSteps:=9^7) (disch:=try exact dI) only[push_cast,↓reduceIte,qa,qb,qc,qd,qe,qf,qg,qh,qi]
  ·omega
  ·intro m hm
   by_cases hgo:m<e.length/\m<2/\1<n
   ·have hgo':=hgo
    obtain⟨g1,g2,g3⟩:=hgo
    have g1I:(m:Int)<e.length:=by omega
    have g2I:(m:Int)<2:=by omega
    have g3I:(1:Int)<n:=by omega
    obtain⟨x,hx⟩:∃ x,e[m]? = some x:=⟨_,Vg g1⟩
    obtain⟨n',rfl⟩:∃ n',n=n'+1:=⟨n - 1,by omega⟩
    have hts:=aD hx
    simp(maxSteps:=9^7) (disch:=try exact dI) only[hx,Typ.cells_len,Typ.isAgg,V5,VD,push_cast,↓reduceIte,qa,qb,qc,qd,qe,qf,qg,qh,qi]
    refine ab.pure (ih n' x (by omega) (h8 x (Vk hx))) rfl ?_
    simp(maxSteps:=9^7) (disch:=try exact dI) only[Typ.cells_len,Typ.ones,push_cast,↓reduceIte,qa,qb,qc,qd,qe,qf,qg,qh,qi]
    exact⟨m+1,aI (by simp(maxSteps:=9^7) (disch:=try exact dI) only[hts,VI,push_cast,↓reduceIte,qa,qb,qc,qd,qe,qf,qg,qh,qi]),f7 hm hgo',by omega⟩
   ·have hm':=f8 hm hgo
    have hexit:¬ m<e.length\/(m<e.length/\¬ m<2)\/(m<e.length/\m<2/\¬ 1<n):=by omega
    rcases hexit with g1 | ⟨g1,g2⟩ | ⟨g1,g2,g3⟩
    ·have g1I:¬ (m:Int)<e.length:=by omega
     simp(maxSteps:=9^7) (disch:=try exact dI) only[push_cast,↓reduceIte,qa,qb,qc,qd,qe,qf,qg,qh,qi]
     exact⟨m,hm',by simp(maxSteps:=9^7) (disch:=try exact dI) only[push_cast,↓reduceIte,qa,qb,qc,qd,qe,qf,qg,qh,qi]⟩
    ·have g1I:(m:Int)<e.length:=by omega
     have g2I:¬ (m:Int)<2:=by omega
     simp(maxSteps:=9^7) (disch:=try exact dI) only[push_cast,↓reduceIte,qa,qb,qc,qd,qe,qf,qg,qh,qi]
     exact⟨m,hm',by simp(maxSteps:=9^7) (disch:=try exact dI) only[push_cast,↓reduceIte,qa,qb,qc,qd,qe,qf,qg,qh,qi]⟩
    ·have g1I:(m:Int)<e.length:=by omega
     have g2I:(m:Int)<2:=by omega
     have g3I:¬ (1:Int)<n:=by omega
     simp(maxSteps:=9^7) (disch:=try exact dI) only[push_cast,↓reduceIte,qa,qb,qc,qd,qe,qf,qg,qh,qi]
     exact⟨m,hm',by simp(maxSteps:=9^7) (disch:=try exact dI) only[push_cast,↓reduceIte,qa,qb,qc,qd,qe,qf,qg,qh,qi]⟩
  ·intro m hm s1 hs1;simp(maxSteps:=9^7) (disch:=try exact dI) only[push_cast,↓reduceIte,qa,qb,qc,qd,qe,qf,qg,qh,qi] at hs1;subst hs1
   have he:(e.take m).map (a8 (n - 1))=if decide (1<n)=true then (e.take 2).map (a8 (n - 1)) else []:=by
    rw[hm,f0];by_cases h:1<n<;>simp[h]
   obtain⟨E,hE⟩:∃ E,E=(e.take m).map (a8 (n - 1)):=⟨_,rfl⟩
   rw[<- hE] at he ⊢
   clear hE hm
   simp(maxSteps:=9^7) (disch:=try exact dI) only[push_cast,↓reduceIte,qa,qb,qc,qd,qe,qf,qg,qh,qi]
   refine gP ([(7,0,98,11)]) (fun m:Nat=>[(7,.olist 4 11 (((f.take m).map (cG (a8 (n - 1)))).map TFd.pv)),(10,.pv (.int .i64 (m:Int)))]) (fun _=>[]) (fun m=>m<=gB (1<n) f.length 6) (fun m=>6 - m) (0) ([2,4,5,6,7]) (fun m=>m=gB (1<n) f.length 6) ?_;intro e0 σ0 n0 h0;simp(maxSteps:=9^7) (disch:=try exact dI) only[push_cast,↓reduceIte,qa,qb,qc,qd,qe,qf,qg,qh,qi] at h0;obtain⟨rfl,rfl,rfl⟩:=h0;refine⟨?_,?_,?_,?_⟩
   ·simp(maxSteps:=9^7) (disch:=try exact dI) only[push_cast,↓reduceIte,qa,qb,qc,qd,qe,qf,qg,qh,qi]
   ·omega
   ·intro m hm
    by_cases hgo:m<f.length/\m<6/\1<n
    ·have hgo':=hgo
     obtain⟨g1,g2,g3⟩:=hgo
     have g1I:(m:Int)<f.length:=by omega
     have g2I:(m:Int)<6:=by omega
     have g3I:(1:Int)<n:=by omega
     obtain⟨x,hx⟩:∃ x,f[m]? = some x:=⟨_,Vg g1⟩
     have hxo:=h10 x (Vk hx)
     obtain⟨nu,nm,ne,ty,df⟩:=x
     rw[U6] at hxo
     obtain⟨n',rfl⟩:∃ n',n=n'+1:=⟨n - 1,by omega⟩
     have hcall:=ih n' ty (by omega) hxo.2.2.2.1
     have hdl:df.length<=9223372036854775807:=by have:=hxo.2.2.2.2.1;omega
     have hdo:=hxo.2.2.2.2.2
     have hts:=aD hx
     obtain⟨w1,w2,w3,w4,w5,w6,w7⟩:=ty
     rw[Vd] at hcall
     obtain⟨cs,hcs,hcl,hco⟩:=Typ.row (a8 n' (.mk w1 w2 w3 w4 w5 w6 w7))
     have hone:cs.all PV.one=true:=VM.2 hco
     rw[hcs] at hcall
     obtain⟨u1,u2,u3,u4,u5,u6,u7,rfl⟩:=MV hcl
     simp only[List.all_cons,List.all_nil,Bool.and_true,Bool.and_eq_true] at hone
     obtain⟨o1,o2,o3,o4,o5,o6,o7⟩:=hone
     simp(maxSteps:=9^7) (disch:=try exact dI) only[hx,U7,Vd,V5,VD,push_cast,↓reduceIte,qa,qb,qc,qd,qe,qf,qg,qh,qi]
     refine gP ([(12,0,31,6)]) (fun q:Nat=>[(12,.olist 6 6 (((df.take q).map (aJ 3)).map Val.pv)),(13,.pv (.int .i64 (q:Int)))]) (fun _=>[]) (fun q=>q<=gB True df.length 2) (fun q=>2 - q) (0) ([1,2,4,5,6,7,10,11,12]) (fun q=>q=gB True df.length 2) ?_;intro e0 σ0 n0 h0;simp(maxSteps:=9^7) (disch:=try exact dI) only[push_cast,↓reduceIte,qa,qb,qc,qd,qe,qf,qg,qh,qi] at h0;obtain⟨rfl,rfl,rfl⟩:=h0;refine⟨?_,?_,?_,?_⟩
     ·simp(maxSteps:=9^7) (disch:=try exact dI) only[push_cast,↓reduceIte,qa,qb,qc,qd,qe,qf,qg,qh,qi]
     ·omega
     ·intro q hq
      by_cases hgq:q<df.length/\q<2/\True
      ·obtain⟨k1,k2,_⟩:=hgq
       have k1I:(q:Int)<df.length:=by omega
       have k2I:(q:Int)<2:=by omega
       obtain⟨y,hy⟩:∃ y,df[q]? = some y:=⟨_,Vg k1⟩
       have htq:=aD hy
       simp(maxSteps:=9^7) (disch:=try exact dI) only[hy,Val.cells_len,Val.isAgg,push_cast,↓reduceIte,qa,qb,qc,qd,qe,qf,qg,qh,qi]
       refine ab.pure (lm 3 (by omega) y (hdo y (Vk hy))) rfl ?_
       simp(maxSteps:=9^7) (disch:=try exact dI) only[Val.cells_len,Val.ones,push_cast,↓reduceIte,qa,qb,qc,qd,qe,qf,qg,qh,qi]
       have hnx:=f7 hq ⟨k1,k2,trivial⟩
       exact⟨q+1,aI (by simp(maxSteps:=9^7) (disch:=try exact dI) only[htq,VI,push_cast,↓reduceIte,qa,qb,qc,qd,qe,qf,qg,qh,qi]),hnx,by omega⟩
      ·have hq':=f8 hq hgq
       have hexit:¬ q<df.length\/(q<df.length/\¬ q<2):=(WJ q df.length).elim (fun h=>.inr ⟨h,fun h6=>hgq ⟨h,h6,trivial⟩⟩) (fun h=>.inl (by omega))
       rcases hexit with k1 | ⟨k1,k2⟩
       ·have k1I:¬ (q:Int)<df.length:=by omega
        simp(maxSteps:=9^7) (disch:=try exact dI) only[push_cast,↓reduceIte,qa,qb,qc,qd,qe,qf,qg,qh,qi]
        exact⟨q,hq',by simp(maxSteps:=9^7) (disch:=try exact dI) only[push_cast,↓reduceIte,qa,qb,qc,qd,qe,qf,qg,qh,qi]⟩
       ·have k1I:(q:Int)<df.length:=by omega
        have k2I:¬ (q:Int)<2:=by omega
        simp(maxSteps:=9^7) (disch:=try exact dI) only[push_cast,↓reduceIte,qa,qb,qc,qd,qe,qf,qg,qh,qi]
        exact⟨q,hq',by simp(maxSteps:=9^7) (disch:=try exact dI) only[push_cast,↓reduceIte,qa,qb,qc,qd,qe,qf,qg,qh,qi]⟩
     ·intro q hq s1 hs1;simp(maxSteps:=9^7) (disch:=try exact dI) only[push_cast,↓reduceIte,qa,qb,qc,qd,qe,qf,qg,qh,qi] at hs1;subst hs1
      have hd:(df.take q).map (aJ 3)=(df.take 2).map (aJ 3):=by rw[hq,f0,if_pos trivial]
      rw[hd]
      simp(maxSteps:=9^7) (disch:=try exact dI) only[V5,VD,push_cast,↓reduceIte,qa,qb,qc,qd,qe,qf,qg,qh,qi]
      refine ak hcall rfl ?_
      simp(maxSteps:=9^7) (disch:=try exact dI) only[o1,o2,o3,o4,o5,o6,o7,push_cast,↓reduceIte,qa,qb,qc,qd,qe,qf,qg,qh,qi]
      exact⟨m+1,aI (by simp(maxSteps:=9^7) (disch:=try exact dI) only[hts,VI,cG,U7,hcs,push_cast,↓reduceIte,qa,qb,qc,qd,qe,qf,qg,qh,qi]),f7 hm hgo',by omega⟩
    ·have hm':=f8 hm hgo
     have hexit:¬ m<f.length\/(m<f.length/\¬ m<6)\/(m<f.length/\m<6/\¬ 1<n):=by omega
     rcases hexit with g1 | ⟨g1,g2⟩ | ⟨g1,g2,g3⟩
     ·have g1I:¬ (m:Int)<f.length:=by omega
      simp(maxSteps:=9^7) (disch:=try exact dI) only[push_cast,↓reduceIte,qa,qb,qc,qd,qe,qf,qg,qh,qi]
      exact⟨m,hm',by simp(maxSteps:=9^7) (disch:=try exact dI) only[push_cast,↓reduceIte,qa,qb,qc,qd,qe,qf,qg,qh,qi]⟩
     ·have g1I:(m:Int)<f.length:=by omega
      have g2I:¬ (m:Int)<6:=by omega
      simp(maxSteps:=9^7) (disch:=try exact dI) only[push_cast,↓reduceIte,qa,qb,qc,qd,qe,qf,qg,qh,qi]
      exact⟨m,hm',by simp(maxSteps:=9^7) (disch:=try exact dI) only[push_cast,↓reduceIte,qa,qb,qc,qd,qe,qf,qg,qh,qi]⟩
     ·have g1I:(m:Int)<f.length:=by omega
      have g2I:(m:Int)<6:=by omega
      have g3I:¬ (1:Int)<n:=by omega
      simp(maxSteps:=9^7) (disch:=try exact dI) only[push_cast,↓reduceIte,qa,qb,qc,qd,qe,qf,qg,qh,qi]
      exact⟨m,hm',by simp(maxSteps:=9^7) (disch:=try exact dI) only[push_cast,↓reduceIte,qa,qb,qc,qd,qe,qf,qg,qh,qi]⟩
   ·intro q hq s1 hs1;simp(maxSteps:=9^7) (disch:=try exact dI) only[push_cast,↓reduceIte,qa,qb,qc,qd,qe,qf,qg,qh,qi] at hs1;subst hs1
    have hf:(f.take q).map (cG (a8 (n - 1)))=if decide (1<n)=true then (f.take 6).map (cG (a8 (n - 1))) else []:=by
     rw[hq,f0];by_cases h:1<n<;>simp[h]
    have hfin:(a8 n (.mk k a b c w e f)).pv = .agg [.int .i64 k,.int .i64 a,.int .i64 b,.int .i64 c,.list (W.map PV.str),.list (E.map Typ.pv),.list (((f.take q).map (cG (a8 (n - 1)))).map TFd.pv)]:=by
     rw[he,hf,hW]
     cases n with
     | zero=>simp[a8,dz,Vd]
     | succ n=>simp[a8,dz,Vd]
    rw[hfin]
    simp(maxSteps:=9^7) (disch:=try exact dI) only[push_cast,↓reduceIte,qa,qb,qc,qd,qe,qf,qg,qh,qi]
theorem sI:∀ (n:Nat) (hn:n<=1000) (v:Typ),v.ok->ae Tryz.prog aq 31 [v.pv,.int .i64 n] (a8 n v).pv:=by
 intro n
 induction n using Nat.strongRecOn with
 | _ n ih=>exact fun hn v hv=>BR n hn (fun m v hmn=>ih m hmn (by omega) v) v hv
attribute [local irreducible] vc
theorem tR (l:List TFd)(g:Nat)(cs:List PV)(q:TFd->Bool)(hq:∀ x∈l,ae Tryz.prog aq g (x.pv::cs) (.bool (q x)))(hl:l.length<=1000000000) :
  ae Tryz.prog aq 147 [.list (l.map TFd.pv),.clo g [] cs] (.int .i64 (fB q l 0)):=by
 refine ae.intro KR.2 (by simp[KR]) ?_
 simp(disch:=try exact dI) only[KR,push_cast,seval]
 refine ap ([]) (fun m:Nat=>[(8,.pv (.int .i64 (m:Int)))]) (fun m=>[]) (fun m=>m<=l.length/\fB q l 0=fB q (l.drop m) m) (fun m=>l.length - m) (0) ?_;intro e0 σ0 n0 h0;simp(disch:=try exact dI) only[push_cast,seval] at h0;obtain⟨rfl,rfl,rfl⟩:=h0;refine⟨?_,?_,?_⟩
 ·exact qsZ
 ·exact⟨by omega,by simp⟩
 ·rintro m ⟨hm,he⟩
  by_cases hlt:m<l.length
  ·have hltI:(m:Int)<l.length:=by omega
   obtain⟨x,hx⟩:∃ x,l[m]? = some x:=⟨_,Vg hlt⟩
   have hcall:=hq x (Vk hx)
   simp(disch:=try exact dI) only[hx,TFd.cells_len,TFd.isAgg,push_cast,seval]
   refine ab.pure hcall (by exact qD (x.pv::cs)) ?_
   cases hqx:q x with
   | true=>
     rw[he,fN hx hqx]
     exact qsZ
   | false=>
     rw[dR hx hqx] at he
     refine zgZ ?_
     exact⟨m+1,aI qsZ,⟨by omega,he⟩,by omega⟩
  ·have hltI:¬ (m:Int)<l.length:=by omega
   rw[he,fO hlt]
   exact qsZ
theorem oo (l:List TFd)(g:Nat)(cs:List PV)(q:TFd->Bool)(hq:∀ x∈l,ae Tryz.prog aq g (x.pv::cs) (.bool (q x)))(hl:l.length<=1000000000) :
  ae Tryz.prog aq 96 [.list (l.map TFd.pv),.clo g [] cs] (.bool (l.any q)):=by
 have h94:=tR l g cs q hq hl
 have hfa:=iR (p:=q) l
 refine ae.intro Q96.2 (by simp[Q96]) ?_
 rcases bZ (p:=q) l 0 with ⟨h1,h2⟩ | ⟨k,x,h1,h2,h3⟩
 ·rw[h2] at h94
  rw[h1] at hfa
  rw[<- hfa]
  simp(disch:=try exact dI) only[Q96,push_cast,seval]
  refine ab.pure h94 rfl ?_
  refine zgZ ?_
  exact .refl _
 ·rw[h3] at h94
  rw[h2] at hfa
  rw[<- hfa]
  have hk:(0:Int)<=((0+k:Nat):Int):=by omega
  generalize ((0+k:Nat):Int)=z at *
  simp(disch:=try exact dI) only[Q96,push_cast,seval]
  refine ab.pure h94 rfl ?_
  refine zgZ ?_
  exact .refl _
def rI (f:TFd):Bool:=decide (f.typ.kind<1)||decide (7<f.typ.kind)
theorem QD (f:TFd):ae Tryz.prog aq 97 [f.pv] (.bool (rI f)):=by
 obtain⟨a,b,c,⟨k,m,n,s,w,e,fs⟩,d⟩:=f
 refine ae.intro Q97.2 (by simp[Q97]) ?_
 simp only[rI,TFd.typ,Typ.kind]
 by_cases h1:k<1
 ·simp(disch:=try exact dI) only[Q97,U7,Vd,push_cast,seval]
  simp[h1]
 ·by_cases h2:7<k
  ·simp(disch:=try exact dI) only[Q97,U7,Vd,push_cast,seval]
   simp[h1,h2]
  ·simp(disch:=try exact dI) only[Q97,U7,Vd,push_cast,seval]
   simp[h1,h2]
def pl:Typ->Bool
 | .mk k _ _ _ _ _ f=>decide (k=9)&&(decide (0<f.length)&&!(f.any rI))
theorem Qm (t:Typ)(h:t.fields.length<=1000000):ae Tryz.prog aq 49 [t.pv] (.bool (pl t)):=by
 obtain⟨k,m,n,s,w,e,f⟩:=t
 simp only[Typ.fields] at h
 have h64:=oo f 97 [] rI (fun x _=>QD x) (by omega)
 refine ae.intro Q49.2 (by simp[Q49]) ?_
 simp only[pl]
 by_cases h1:k=9
 ·by_cases h2:0<f.length
  ·have h2I:(0:Int)<f.length:=by omega
   simp(disch:=try exact dI) only[Q49,Vd,h1,push_cast,seval]
   refine ab.pure h64 rfl ?_
   exact qsZ
  ·have h2I:¬ (0:Int)<f.length:=by omega
   simp(disch:=try exact dI) only[Q49,Vd,h1,push_cast,seval]
 ·simp(disch:=try exact dI) only[Q49,Vd,h1,push_cast,seval]
theorem sJ (rec:Typ->Typ)(f:TFd):(cG rec f).typ=rec f.typ:=by
 obtain⟨a,b,c,t,d⟩:=f;rfl
theorem iY:∀ (n:Nat) (v:Val),SizeOf.sizeOf v<n->v.ok->ae Tryz.prog aq 58 [v.pv] v.pv:=by
 intro n
 induction n with
 | zero=>intro v h;omega
 | succ n ih=>
 intro v hn hv
 obtain⟨k,i,s,t,l,f⟩:=v
 rw[Ve] at hv
 obtain⟨h1,h2,h3,h4,h5,h7,h6,h8⟩:=hv
 simp only[Val.mk.sizeOf_spec] at hn
 have hl:∀ x∈l,ae Tryz.prog aq 58 [x.pv] x.pv:=fun x hx=>ih x (by have:=List.sizeOf_lt_of_mem hx;omega) (h7 x hx)
 have hf:∀ a v,Fld.mk a v∈f->ae Tryz.prog aq 58 [v.pv] v.pv:=fun a v hx=>ih v (by have:=List.sizeOf_lt_of_mem hx;simp only[Fld.mk.sizeOf_spec] at this;omega) (by have:=h8 _ hx;rw[U2] at this;exact this.2)
 refine ae.intro Oh.2 (by simp[Oh]) ?_
 simp(disch:=try exact dI) only[Oh,Vf,push_cast,seval]
 refine ap ([(3,5,31,6)]) (fun m:Nat=>[(14,.pv (.int .i64 (m:Int)))]) (fun m=>[(1,.cells 31 true [.pv (.int .i64 k),.pv (.int .i64 i),.pv (.int .i64 s),.pv (.str t),.olist 2 6 ((l.take m).map Val.pv),.pv .nils])]) (fun m=>m<=l.length) (fun m=>l.length - m) (0) ?_;intro e0 σ0 n0 h0;simp(disch:=try exact dI) only[push_cast,seval] at h0;obtain⟨rfl,rfl,rfl⟩:=h0;refine⟨?_,?_,?_⟩
 ·exact qsZ
 ·omega
 ·intro m hm
  by_cases hlt:m<l.length
  ·have hltI:(m:Int)<l.length:=by omega
   obtain⟨x,hx⟩:∃ x,l[m]? = some x:=⟨_,Vg hlt⟩
   have hts:=aD hx
   have hlt2:(l.take m).length=m:=by rw[Vs];omega
   have hcall:=hl x (Vk hx)
   obtain⟨w1,w2,w3,w4,w5,w6⟩:=x
   rw[Vf] at hcall
   simp(disch:=try exact dI) only[hx,Vf,push_cast,seval]
   refine ak hcall rfl ?_
   simp(disch:=try exact dI) only[hlt2,push_cast,seval]
   exact⟨m+1,aI (by simp(disch:=try exact dI) only[hts,VI,Vf,push_cast,seval]),by omega,by omega⟩
  ·have hltI:¬ (m:Int)<l.length:=by omega
   have hle:l.take m=l:=VC (by omega)
   simp(disch:=try exact dI) only[hle,push_cast,seval]
   refine ap ([(3,6,83,7)]) (fun m:Nat=>[(29,.pv (.int .i64 (m:Int)))]) (fun m=>[(1,.cells 31 true [.pv (.int .i64 k),.pv (.int .i64 i),.pv (.int .i64 s),.pv (.str t),.olist 2 6 (l.map Val.pv),.olist 3 7 ((f.take m).map Fld.pv)])]) (fun m=>m<=f.length) (fun m=>f.length - m) (0) ?_;intro e0 σ0 n0 h0;simp(disch:=try exact dI) only[push_cast,seval] at h0;obtain⟨rfl,rfl,rfl⟩:=h0;refine⟨?_,?_,?_⟩
   ·exact qsZ
   ·omega
   ·intro m hm
    by_cases hlt:m<f.length
    ·have hltI:(m:Int)<f.length:=by omega
     obtain⟨⟨a,v⟩,hx⟩:∃ x,f[m]? = some x:=⟨_,Vg hlt⟩
     have hts:=aD hx
     have hlt2:(f.take m).length=m:=by rw[Vs];omega
     have hcall:=hf a v (Vk hx)
     obtain⟨w1,w2,w3,w4,w5,w6⟩:=v
     rw[Vf] at hcall
     simp(disch:=try exact dI) only[hx,U3,Vf,push_cast,seval]
     refine ak hcall rfl ?_
     simp(disch:=try exact dI) only[hlt2,push_cast,seval]
     exact⟨m+1,aI (by simp(disch:=try exact dI) only[hts,VI,U3,Vf,push_cast,seval]),by omega,by omega⟩
    ·have hltI:¬ (m:Int)<f.length:=by omega
     have hle:f.take m=f:=VC (by omega)
     simp(disch:=try exact dI) only[hle,push_cast,seval]
