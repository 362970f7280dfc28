/- A part of the proof. -/
import Derived.Test.YtbaaokocnegdoaaGreatDoorDeWD
set_option linter.unusedVariables false
set_option linter.unusedSimpArgs false
set_option maxRecDepth 100000
namespace Go.Proofs.YtbaaokocnegdoaaGreatDoor
open Go Go.Ab
attribute [local irreducible] vc
def oi:List UInt8->Option (List UInt8)
 | []=>some []
 | [_]=>some []
 | a::b::r=>if nib a<0\/nib b<0 then none else (oi r).map (vX a b :: ·)
theorem qD:∀ {s:List UInt8},s.length % 2=0->DQ s=oi s
 | [],_=>rfl
 | [_],h=>by simp at h
 | a::b::r,h=>by
   rw[DQ,oi,qD (s:=r) (by simp only[List.length_cons] at h;omega)]
theorem G8 (s:List UInt8)(hl:s.length<=10000):ak Tryz.prog aq 39 [.int .i64 5,.str s] (rdV 5 0 0 ((oi s).getD []) ((oi s).isSome&&decide (s.length % 2=0))):=by
 unfold rdV vN
 obtain⟨R,hR⟩:∃ R,R=oi s:=⟨_,rfl⟩
 rw[<- hR]
 have hm:=fc (a:=(s.length:Int)) (b:=2) (by omega)
 have hq:decide (s.length % 2=0)=decide ((s.length:Int) % 2=0):=by
  by_cases h:s.length % 2=0
  ·rw[decide_eq_true h,decide_eq_true (by omega)]
  ·rw[decide_eq_false h,decide_eq_false (by omega)]
 rw[hq]
 generalize hq2:decide ((s.length:Int) % 2=0)=q
 refine ak.intro Q39.2 (by simp[Q39]) ?_
 simp(disch:=try exact dI) only[Q39,push_cast,seval]
 refine ap ([(9,0,5,1)]) (fun y:Nat×List UInt8=>[(9,.olist 2 1 (y.2.map fun b=>PV.int .u8 (b.toNat:Int))),(10,.pv (.int .i64 (y.1:Int)))]) (fun _=>[]) (fun y=>y.1<=s.length/\y.2.length<=y.1/\R=(oi (s.drop y.1)).map (y.2 ++ ·)) (fun y=>s.length - y.1) ((0,[])) ?_;intro e0 σ0 n0 h0;simp(disch:=try exact dI) only[push_cast,seval] at h0;obtain⟨rfl,rfl,rfl⟩:=h0;refine⟨?_,?_,?_⟩
 ·exact qsZ
 ·exact⟨by simp,by simp,by simp[hR]⟩
 rintro⟨i,l⟩ ⟨h1,h2,h3⟩
 simp only at h1 h2 h3
 by_cases hi:i+1<s.length
 ·obtain⟨x,hx⟩:∃ x,s[i]? = some x:=⟨_,List.getElem?_eq_getElem (by omega)⟩
  obtain⟨y,hy⟩:∃ y,s[i+1]? = some y:=⟨_,List.getElem?_eq_getElem hi⟩
  rw[ba hx,ba hy,oi] at h3
  have n1:=uJ x
  have n2:=uJ y
  have a1:=iV x
  have a2:=iV y
  by_cases hxn:nib x<0
  ·rw[if_pos (Or.inl hxn)] at h3
   have hR2:R=none:=h3
   rw[hR2]
   simp(disch:=try exact dI) only[hx,hy,am,push_cast,seval]
   refine ae n1 rfl ?_
   simp(disch:=try exact dI) only[hx,hy,am,push_cast,seval]
   refine ab.pure n2 rfl ?_
   simp(disch:=try exact dI) only[Option.getD_none,Option.isSome_none,Bool.false_and,push_cast,seval]
  ·by_cases hyn:nib y<0
   ·rw[if_pos (Or.inr hyn)] at h3
    have hR2:R=none:=h3
    rw[hR2]
    simp(disch:=try exact dI) only[hx,hy,am,push_cast,seval]
    refine ae n1 rfl ?_
    simp(disch:=try exact dI) only[hx,hy,am,push_cast,seval]
    refine ab.pure n2 rfl ?_
    simp(disch:=try exact dI) only[Option.getD_none,Option.isSome_none,Bool.false_and,push_cast,seval]
   ·rw[if_neg (by rintro (h | h);exact hxn h;exact hyn h)] at h3
    have hbn:=vW hxn hyn
    have hc:16*nib x+nib y=((vX x y).toNat:Int):=by omega
    have hlt:=(vX x y).toNat_lt
    have hw:=j7 (n:=((vX x y).toNat:Int)) (by omega) (by omega)
    have h3':R=(oi (s.drop (i+2))).map (l++[vX x y] ++ ·):=by
     rw[h3,Option.map_map]
     congr 1
     funext q;simp
    simp(disch:=try exact dI) only[hx,hy,am,push_cast,seval]
    refine ae n1 rfl ?_
    simp(disch:=try exact dI) only[hx,hy,am,push_cast,seval]
    refine ab.pure n2 rfl ?_
    simp(disch:=try exact dI) only[hc,hw,push_cast,seval]
    exact⟨(i+2,l++[vX x y]),aK (by simp(disch:=try exact dI) only[List.map_append,push_cast,seval];omega),⟨by simp only;omega,by simp;omega,by simpa using h3'⟩,by simp only;omega⟩
 ·have hdr:oi (s.drop i)=some []:=by
   have hdl:(s.drop i).length<=1:=by rw[List.length_drop];omega
   match s.drop i,hdl with
   | [],_=>rfl
   | [c],_=>rfl
   | c::d::r,h=>simp at h
  rw[hdr,Option.map_some,List.append_nil] at h3
  rw[h3]
  have hub:=kg l
  simp(disch:=try exact dI) only[hub,hm,hq2,Option.getD_some,Option.isSome_some,Bool.true_and,push_cast,seval]
def jk (rec:Val->Val):Fld->Fld
 | .mk n v=>.mk (n.take 40) (rec v)
def cr (rec:Val->Val)(on:Bool):Val->Val
 | .mk k i s t l f=>.mk k i s (t.take 40) (if on then (l.take 6).map rec else []) (if on then (f.take 6).map (jk rec) else [])
def aP:Nat->Val->Val
 | 0=>cr id false
 | n+1=>cr (aP n) (decide (0<n))
def Am (on:Prop)[Decidable on](len:Nat):Nat:=if on then min len 6 else 0
theorem Bq (n:Nat)(hn:n<=1000)(ih:∀ m v,m<n->v.ok->ak Tryz.prog aq 19 [v.pv,.int .i64 m] (aP m v).pv)(v:Val)(hv:v.ok):ak Tryz.prog aq 19 [v.pv,.int .i64 n] (aP n v).pv:=by
 obtain⟨k,i,s,t,l,f⟩:=v
 rw[Val.ok_mk] at hv
 obtain⟨h1,h2,h3,h4,h5,h7,h6,h8⟩:=hv
 refine ak.intro Q19.2 (by simp[Q19]) ?_
 simp(disch:=try exact dI) only[Q19,Val.pv_mk,push_cast,seval]
 refine iF ([(5,0,31,6)]) (fun m:Nat=>[(5,.olist 2 6 (((l.take m).map (aP (n - 1))).map Val.pv)),(7,.pv (.int .i64 (m:Int)))]) (fun _=>[]) (fun m=>m<=Am (1<n) l.length) (fun m=>6 - m) (0) ([1,2,4,5,6]) (fun m=>m=Am (1<n) l.length) ?_;intro e0 σ0 n0 h0;simp(disch:=try exact dI) only[push_cast,seval] at h0;obtain⟨rfl,rfl,rfl⟩:=h0;refine⟨?_,?_,?_,?_⟩
 ·exact qsZ
 ·omega
 ·intro m hm
  by_cases hgo:m<l.length/\m<6/\1<n
  ·obtain⟨g1,g2,g3⟩:=hgo
   have g1I:(m:Int)<l.length:=by omega
   have g2I:(m:Int)<6:=by omega
   have g3I:(1:Int)<n:=by omega
   obtain⟨x,hx⟩:∃ x,l[m]? = some x:=⟨_,List.getElem?_eq_getElem g1⟩
   obtain⟨n',rfl⟩:∃ n',n=n'+1:=⟨n - 1,by omega⟩
   have hts:=aD hx
   simp(disch:=try exact dI) only[hx,Val.cells_len,Val.isAgg,Nat.add_sub_cancel,Int.add_sub_cancel,push_cast,seval]
   refine ab.pure (ih n' x (by omega) (h7 x (List.mem_of_getElem? hx))) rfl ?_
   simp(disch:=try exact dI) only[Val.cells_len,Val.ones,push_cast,seval]
   exact⟨m+1,aK (by simp(disch:=try exact dI) only[hts,List.map_append,push_cast,seval]),by simp only[Am,if_pos g3] at hm ⊢;omega,by omega⟩
  ·have hm':m=Am (1<n) l.length:=by unfold Am at hm ⊢;split at hm<;>rename_i h1<;>(try rw[if_pos h1])<;>(try rw[if_neg h1])<;>omega
   have hexit:¬ m<l.length\/(m<l.length/\¬ m<6)\/(m<l.length/\m<6/\¬ 1<n):=by omega
   rcases hexit with g1 | ⟨g1,g2⟩ | ⟨g1,g2,g3⟩
   ·have g1I:¬ (m:Int)<l.length:=by omega
    refine zgZ ?_
    exact⟨m,hm',qsZ⟩
   ·have g1I:(m:Int)<l.length:=by omega
    have g2I:¬ (m:Int)<6:=by omega
    refine zgZ ?_
    exact⟨m,hm',qsZ⟩
   ·have g1I:(m:Int)<l.length:=by omega
    have g2I:(m:Int)<6:=by omega
    have g3I:¬ (1:Int)<n:=by omega
    refine zgZ ?_
    exact⟨m,hm',qsZ⟩
 ·intro m hm s1 hs1;simp(disch:=try exact dI) only[push_cast,seval] at hs1;subst hs1
  have hl:(l.take m).map (aP (n - 1))=if decide (1<n)=true then (l.take 6).map (aP (n - 1)) else []:=by
   subst hm;unfold Am
   by_cases h:1<n
   ·simp only[h,decide_true,if_true];rw[Nat.min_comm,<- List.take_take,List.take_of_length_le (Nat.le_refl _)]
   ·simp[h]
  obtain⟨LL,hLL⟩:∃ LL,LL=(l.take m).map (aP (n - 1)):=⟨_,rfl⟩
  rw[<- hLL] at hl ⊢
  clear hLL
  refine zgZ ?_
  refine iF ([(6,0,83,7)]) (fun m:Nat=>[(6,.olist 3 7 (((f.take m).map (jk (aP (n - 1)))).map Fld.pv)),(8,.pv (.int .i64 (m:Int)))]) (fun _=>[]) (fun m=>m<=Am (1<n) f.length) (fun m=>6 - m) (0) ([2,4,5,6]) (fun m=>m=Am (1<n) f.length) ?_;intro e0 σ0 n0 h0;simp(disch:=try exact dI) only[push_cast,seval] at h0;obtain⟨rfl,rfl,rfl⟩:=h0;refine⟨?_,?_,?_,?_⟩
  ·exact qsZ
  ·omega
  ·intro m hm
   by_cases hgo:m<f.length/\m<6/\1<n
   ·obtain⟨g1,g2,g3⟩:=hgo
    have g1I:(m:Int)<f.length:=by omega
    have g2I:(m:Int)<6:=by omega
    have g3I:(1:Int)<n:=by omega
    obtain⟨x,hx⟩:∃ x,f[m]? = some x:=⟨_,List.getElem?_eq_getElem g1⟩
    have hxo:=h8 x (List.mem_of_getElem? hx)
    obtain⟨nm,vv⟩:=x
    rw[Fld.ok_mk] at hxo
    obtain⟨n',rfl⟩:∃ n',n=n'+1:=⟨n - 1,by omega⟩
    have hcall:=ih n' vv (by omega) hxo.2
    have hts:=aD hx
    obtain⟨w1,w2,w3,w4,w5,w6⟩:=vv
    rw[Val.pv_mk] at hcall
    have hlen:=Fld.cells_len (.mk nm (.mk w1 w2 w3 w4 w5 w6))
    rw[Fld.pv_mk,Val.pv_mk] at hlen
    obtain⟨cs,hcs,hcl,hco⟩:=Val.row (aP n' (.mk w1 w2 w3 w4 w5 w6))
    have hone:cs.all PV.one=true:=List.all_eq_true.2 hco
    rw[hcs] at hcall
    obtain⟨u1,u2,u3,u4,u5,u6,rfl⟩:=Qp hcl
    simp only[List.all_cons,List.all_nil,Bool.and_true,Bool.and_eq_true] at hone
    obtain⟨o1,o2,o3,o4,o5,o6⟩:=hone
    simp(disch:=try exact dI) only[hx,Fld.pv_mk,Val.pv_mk,Nat.add_sub_cancel,Int.add_sub_cancel,push_cast,seval]
    refine ae hcall rfl ?_
    simp(disch:=try exact dI) only[o1,o2,o3,o4,o5,o6,push_cast,seval]
    exact⟨m+1,aK (by simp(disch:=try exact dI) only[hts,List.map_append,jk,Fld.pv_mk,hcs,push_cast,seval]),by simp only[Am,if_pos g3] at hm ⊢;omega,by omega⟩
   ·have hm':m=Am (1<n) f.length:=by unfold Am at hm ⊢;split at hm<;>rename_i h1<;>(try rw[if_pos h1])<;>(try rw[if_neg h1])<;>omega
    have hexit:¬ m<f.length\/(m<f.length/\¬ m<6)\/(m<f.length/\m<6/\¬ 1<n):=by omega
    rcases hexit with g1 | ⟨g1,g2⟩ | ⟨g1,g2,g3⟩
    ·have g1I:¬ (m:Int)<f.length:=by omega
     refine zgZ ?_
     exact⟨m,hm',qsZ⟩
    ·have g1I:(m:Int)<f.length:=by omega
     have g2I:¬ (m:Int)<6:=by omega
     refine zgZ ?_
     exact⟨m,hm',qsZ⟩
    ·have g1I:(m:Int)<f.length:=by omega
     have g2I:(m:Int)<6:=by omega
     have g3I:¬ (1:Int)<n:=by omega
     refine zgZ ?_
     exact⟨m,hm',qsZ⟩
  ·intro q hq s1 hs1;simp(disch:=try exact dI) only[push_cast,seval] at hs1;subst hs1
   have hf:(f.take q).map (jk (aP (n - 1)))=if decide (1<n)=true then (f.take 6).map (jk (aP (n - 1))) else []:=by
    subst hq;unfold Am
    by_cases h:1<n
    ·simp only[h,decide_true,if_true];rw[Nat.min_comm,<- List.take_take,List.take_of_length_le (Nat.le_refl _)]
    ·simp[h]
   have hfin:(aP n (.mk k i s t l f)).pv = .agg [.int .i64 k,.int .i64 i,.int .i64 s,.str (t.take 40),.list (LL.map Val.pv),.list (((f.take q).map (jk (aP (n - 1)))).map Fld.pv)]:=by
    rw[hl,hf]
    cases n with
    | zero=>simp[aP,cr,Val.pv_mk]
    | succ n=>simp[aP,cr,Val.pv_mk]
   rw[hfin]
   exact qsZ
theorem rU:∀ (n:Nat) (hn:n<=1000) (v:Val),v.ok->ak Tryz.prog aq 19 [v.pv,.int .i64 n] (aP n v).pv:=by
 intro n
 induction n using Nat.strongRecOn with
 | _ n ih=>exact fun hn v hv=>Bq n hn (fun m v hmn=>ih m hmn (by omega) v) v hv
open Nat renaming reduceEqDiff->qa,reduceAdd->qb,reduceMul->qc,reduceLeDiff->qd,reduceLT->qe,reduceBEq->qf,reduceSub->qg
open Int renaming reduceToNat->qh,reduceNeg->qi
section
variable {on:Prop}[Decidable on]{len k m:Nat}
def f9 (on:Prop)[Decidable on](len k:Nat):Nat:=if on then min len k else 0
theorem fG {α:Type}(l:List α)(k:Nat):l.take (f9 on l.length k)=if on then l.take k else []:=by
 unfold f9
 split
 ·rw[Nat.min_comm,<- List.take_take,List.take_of_length_le (Nat.le_refl _)]
 ·simp
theorem fI (hm:m<=f9 on len k)(h:¬ (m<len/\m<k/\on)):m=f9 on len k:=by
 unfold f9 at hm ⊢
 by_cases h1:on
 ·rw[if_pos h1] at hm ⊢
  have:¬ (m<len/\m<k):=fun hh=>h ⟨hh.1,hh.2,h1⟩
  omega
 ·rw[if_neg h1] at hm ⊢;omega
theorem fH (hm:m<=f9 on len k)(h:m<len/\m<k/\on):m+1<=f9 on len k:=by
 unfold f9 at hm ⊢
 rw[if_pos h.2.2] at hm ⊢;omega
end
def ct (rec:Typ->Typ):TFd->TFd
 | .mk a b c t d=>.mk a (b.take 40) c (rec t) ((d.take 2).map (aP 3))
def dm (rec:Typ->Typ)(on:Bool):Typ->Typ
 | .mk k a b c w e f=>.mk k a b c ((w.take 6).map (List.take 40)) (if on then (e.take 2).map rec else []) (if on then (f.take 6).map (ct rec) else [])
def aX:Nat->Typ->Typ
 | 0=>dm id false
 | n+1=>dm (aX n) (decide (0<n))
theorem Br (n:Nat)(hn:n<=1000)(ih:∀ m v,m<n->v.ok->ak Tryz.prog aq 31 [v.pv,.int .i64 m] (aX m v).pv)(v:Typ)(hv:v.ok):ak Tryz.prog aq 31 [v.pv,.int .i64 n] (aX n v).pv:=by
 obtain⟨k,a,b,c,w,e,f⟩:=v
 rw[Typ.ok_mk] at hv
 obtain⟨h1,h2,h3,h4,h5,h6,h7,h8,h9,h10⟩:=hv
 refine ak.intro Q31.2 (by simp[Q31]) ?_
 simp(maxSteps:=9^7) (disch:=try exact dI) only[Q31,Typ.pv_mk,push_cast,↓reduceIte,qa,qb,qc,qd,qe,qf,qg,qh,qi]
 refine iF ([(5,0,9,1)]) (fun m:Nat=>[(5,.olist 2 1 (((w.take m).map (List.take 40)).map PV.str)),(8,.pv (.int .i64 (m:Int)))]) (fun _=>[]) (fun m=>m<=f9 True w.length 6) (fun m=>6 - m) (0) ([1,2,4,5,6,7]) (fun m=>m=f9 True w.length 6) ?_;intro e0 σ0 n0 h0;simp(maxSteps:=9^7) (disch:=try exact dI) only[push_cast,↓reduceIte,qa,qb,qc,qd,qe,qf,qg,qh,qi] at h0;obtain⟨rfl,rfl,rfl⟩:=h0;refine⟨?_,?_,?_,?_⟩
 ·simp(maxSteps:=9^7) (disch:=try exact dI) only[push_cast,↓reduceIte,qa,qb,qc,qd,qe,qf,qg,qh,qi]
 ·omega
 ·intro m hm
  by_cases hgo:m<w.length/\m<6/\True
  ·obtain⟨g1,g2,_⟩:=hgo
   have g1I:(m:Int)<w.length:=by omega
   have g2I:(m:Int)<6:=by omega
   obtain⟨x,hx⟩:∃ x,w[m]? = some x:=⟨_,List.getElem?_eq_getElem g1⟩
   have hts:=aD hx
   simp(maxSteps:=9^7) (disch:=try exact dI) only[hx,push_cast,↓reduceIte,qa,qb,qc,qd,qe,qf,qg,qh,qi]
   have hnx:=fH hm ⟨g1,g2,trivial⟩
   exact⟨m+1,aK (by simp(maxSteps:=9^7) (disch:=try exact dI) only[hts,List.map_append,push_cast,↓reduceIte,qa,qb,qc,qd,qe,qf,qg,qh,qi]),hnx,by omega⟩
  ·have hm':=fI hm hgo
   have hexit:¬ m<w.length\/(m<w.length/\¬ m<6):=(Nat.lt_or_ge m w.length).elim (fun h=>.inr ⟨h,fun h6=>hgo ⟨h,h6,trivial⟩⟩) (fun h=>.inl (by omega))
   rcases hexit with g1 | ⟨g1,g2⟩
   ·have g1I:¬ (m:Int)<w.length:=by omega
    simp(maxSteps:=9^7) (disch:=try exact dI) only[push_cast,↓reduceIte,qa,qb,qc,qd,qe,qf,qg,qh,qi]
    exact⟨m,hm',by simp(maxSteps:=9^7) (disch:=try exact dI) only[push_cast,↓reduceIte,qa,qb,qc,qd,qe,qf,qg,qh,qi]⟩
   ·have g1I:(m:Int)<w.length:=by omega
    have g2I:¬ (m:Int)<6:=by omega
    simp(maxSteps:=9^7) (disch:=try exact dI) only[push_cast,↓reduceIte,qa,qb,qc,qd,qe,qf,qg,qh,qi]
    exact⟨m,hm',by simp(maxSteps:=9^7) (disch:=try exact dI) only[push_cast,↓reduceIte,qa,qb,qc,qd,qe,qf,qg,qh,qi]⟩
 ·intro m hm s1 hs1;simp(maxSteps:=9^7) (disch:=try exact dI) only[push_cast,↓reduceIte,qa,qb,qc,qd,qe,qf,qg,qh,qi] at hs1;subst hs1
  have hw:(w.take m).map (List.take 40)=(w.take 6).map (List.take 40):=by rw[hm,fG,if_pos trivial]
  rw[hw]
  obtain⟨W,hW⟩:∃ W,W=(w.take 6).map (List.take 40):=⟨_,rfl⟩
  rw[<- hW]
  clear hw hm
  simp(maxSteps:=9^7) (disch:=try exact dI) only[push_cast,↓reduceIte,qa,qb,qc,qd,qe,qf,qg,qh,qi]
  refine iF ([(6,0,26,7)]) (fun m:Nat=>[(6,.olist 3 7 (((e.take m).map (aX (n - 1))).map Typ.pv)),(9,.pv (.int .i64 (m:Int)))]) (fun _=>[]) (fun m=>m<=f9 (1<n) e.length 2) (fun m=>2 - m) (0) ([1,2,4,5,6,7]) (fun m=>m=f9 (1<n) e.length 2) ?_;intro e0 σ0 n0 h0;simp(maxSteps:=9^7) (disch:=try exact dI) only[push_cast,↓reduceIte,qa,qb,qc,qd,qe,qf,qg,qh,qi] at h0;obtain⟨rfl,rfl,rfl⟩:=h0;refine⟨?_,?_,?_,?_⟩
  ·simp(maxSteps:=9^7) (disch:=try exact dI) only[push_cast,↓reduceIte,qa,qb,qc,qd,qe,qf,qg,qh,qi]
  ·omega
  ·intro m hm
   by_cases hgo:m<e.length/\m<2/\1<n
   ·have hgo':=hgo
    obtain⟨g1,g2,g3⟩:=hgo
    have g1I:(m:Int)<e.length:=by omega
    have g2I:(m:Int)<2:=by omega
    have g3I:(1:Int)<n:=by omega
    obtain⟨x,hx⟩:∃ x,e[m]? = some x:=⟨_,List.getElem?_eq_getElem g1⟩
    obtain⟨n',rfl⟩:∃ n',n=n'+1:=⟨n - 1,by omega⟩
    have hts:=aD hx
    simp(maxSteps:=9^7) (disch:=try exact dI) only[hx,Typ.cells_len,Typ.isAgg,Nat.add_sub_cancel,Int.add_sub_cancel,push_cast,↓reduceIte,qa,qb,qc,qd,qe,qf,qg,qh,qi]
    refine ab.pure (ih n' x (by omega) (h8 x (List.mem_of_getElem? hx))) rfl ?_
    simp(maxSteps:=9^7) (disch:=try exact dI) only[Typ.cells_len,Typ.ones,push_cast,↓reduceIte,qa,qb,qc,qd,qe,qf,qg,qh,qi]
    exact⟨m+1,aK (by simp(maxSteps:=9^7) (disch:=try exact dI) only[hts,List.map_append,push_cast,↓reduceIte,qa,qb,qc,qd,qe,qf,qg,qh,qi]),fH hm hgo',by omega⟩
   ·have hm':=fI hm hgo
    have hexit:¬ m<e.length\/(m<e.length/\¬ m<2)\/(m<e.length/\m<2/\¬ 1<n):=by omega
    rcases hexit with g1 | ⟨g1,g2⟩ | ⟨g1,g2,g3⟩
    ·have g1I:¬ (m:Int)<e.length:=by omega
     simp(maxSteps:=9^7) (disch:=try exact dI) only[push_cast,↓reduceIte,qa,qb,qc,qd,qe,qf,qg,qh,qi]
     exact⟨m,hm',by simp(maxSteps:=9^7) (disch:=try exact dI) only[push_cast,↓reduceIte,qa,qb,qc,qd,qe,qf,qg,qh,qi]⟩
    ·have g1I:(m:Int)<e.length:=by omega
     have g2I:¬ (m:Int)<2:=by omega
     simp(maxSteps:=9^7) (disch:=try exact dI) only[push_cast,↓reduceIte,qa,qb,qc,qd,qe,qf,qg,qh,qi]
     exact⟨m,hm',by simp(maxSteps:=9^7) (disch:=try exact dI) only[push_cast,↓reduceIte,qa,qb,qc,qd,qe,qf,qg,qh,qi]⟩
    ·have g1I:(m:Int)<e.length:=by omega
     have g2I:(m:Int)<2:=by omega
     have g3I:¬ (1:Int)<n:=by omega
     simp(maxSteps:=9^7) (disch:=try exact dI) only[push_cast,↓reduceIte,qa,qb,qc,qd,qe,qf,qg,qh,qi]
     exact⟨m,hm',by simp(maxSteps:=9^7) (disch:=try exact dI) only[push_cast,↓reduceIte,qa,qb,qc,qd,qe,qf,qg,qh,qi]⟩
  ·intro m hm s1 hs1;simp(maxSteps:=9^7) (disch:=try exact dI) only[push_cast,↓reduceIte,qa,qb,qc,qd,qe,qf,qg,qh,qi] at hs1;subst hs1
   have he:(e.take m).map (aX (n - 1))=if decide (1<n)=true then (e.take 2).map (aX (n - 1)) else []:=by
    rw[hm,fG];by_cases h:1<n<;>simp[h]
   obtain⟨E,hE⟩:∃ E,E=(e.take m).map (aX (n - 1)):=⟨_,rfl⟩
   rw[<- hE] at he ⊢
   clear hE hm
   simp(maxSteps:=9^7) (disch:=try exact dI) only[push_cast,↓reduceIte,qa,qb,qc,qd,qe,qf,qg,qh,qi]
   refine iF ([(7,0,98,11)]) (fun m:Nat=>[(7,.olist 4 11 (((f.take m).map (ct (aX (n - 1)))).map TFd.pv)),(10,.pv (.int .i64 (m:Int)))]) (fun _=>[]) (fun m=>m<=f9 (1<n) f.length 6) (fun m=>6 - m) (0) ([2,4,5,6,7]) (fun m=>m=f9 (1<n) f.length 6) ?_;intro e0 σ0 n0 h0;simp(maxSteps:=9^7) (disch:=try exact dI) only[push_cast,↓reduceIte,qa,qb,qc,qd,qe,qf,qg,qh,qi] at h0;obtain⟨rfl,rfl,rfl⟩:=h0;refine⟨?_,?_,?_,?_⟩
   ·simp(maxSteps:=9^7) (disch:=try exact dI) only[push_cast,↓reduceIte,qa,qb,qc,qd,qe,qf,qg,qh,qi]
   ·omega
   ·intro m hm
    by_cases hgo:m<f.length/\m<6/\1<n
    ·have hgo':=hgo
     obtain⟨g1,g2,g3⟩:=hgo
     have g1I:(m:Int)<f.length:=by omega
     have g2I:(m:Int)<6:=by omega
     have g3I:(1:Int)<n:=by omega
     obtain⟨x,hx⟩:∃ x,f[m]? = some x:=⟨_,List.getElem?_eq_getElem g1⟩
     have hxo:=h10 x (List.mem_of_getElem? hx)
     obtain⟨nu,nm,ne,ty,df⟩:=x
     rw[TFd.ok_mk] at hxo
     obtain⟨n',rfl⟩:∃ n',n=n'+1:=⟨n - 1,by omega⟩
     have hcall:=ih n' ty (by omega) hxo.2.2.2.1
     have hdl:df.length<=9223372036854775807:=by have:=hxo.2.2.2.2.1;omega
     have hdo:=hxo.2.2.2.2.2
     have hts:=aD hx
     obtain⟨w1,w2,w3,w4,w5,w6,w7⟩:=ty
     rw[Typ.pv_mk] at hcall
     obtain⟨cs,hcs,hcl,hco⟩:=Typ.row (aX n' (.mk w1 w2 w3 w4 w5 w6 w7))
     have hone:cs.all PV.one=true:=List.all_eq_true.2 hco
     rw[hcs] at hcall
     obtain⟨u1,u2,u3,u4,u5,u6,u7,rfl⟩:=Nd hcl
     simp only[List.all_cons,List.all_nil,Bool.and_true,Bool.and_eq_true] at hone
     obtain⟨o1,o2,o3,o4,o5,o6,o7⟩:=hone
     simp(maxSteps:=9^7) (disch:=try exact dI) only[hx,TFd.pv_mk,Typ.pv_mk,Nat.add_sub_cancel,Int.add_sub_cancel,push_cast,↓reduceIte,qa,qb,qc,qd,qe,qf,qg,qh,qi]
     refine iF ([(12,0,31,6)]) (fun q:Nat=>[(12,.olist 6 6 (((df.take q).map (aP 3)).map Val.pv)),(13,.pv (.int .i64 (q:Int)))]) (fun _=>[]) (fun q=>q<=f9 True df.length 2) (fun q=>2 - q) (0) ([1,2,4,5,6,7,10,11,12]) (fun q=>q=f9 True df.length 2) ?_;intro e0 σ0 n0 h0;simp(maxSteps:=9^7) (disch:=try exact dI) only[push_cast,↓reduceIte,qa,qb,qc,qd,qe,qf,qg,qh,qi] at h0;obtain⟨rfl,rfl,rfl⟩:=h0;refine⟨?_,?_,?_,?_⟩
     ·simp(maxSteps:=9^7) (disch:=try exact dI) only[push_cast,↓reduceIte,qa,qb,qc,qd,qe,qf,qg,qh,qi]
     ·omega
     ·intro q hq
      by_cases hgq:q<df.length/\q<2/\True
      ·obtain⟨k1,k2,_⟩:=hgq
       have k1I:(q:Int)<df.length:=by omega
       have k2I:(q:Int)<2:=by omega
       obtain⟨y,hy⟩:∃ y,df[q]? = some y:=⟨_,List.getElem?_eq_getElem k1⟩
       have htq:=aD hy
       simp(maxSteps:=9^7) (disch:=try exact dI) only[hy,Val.cells_len,Val.isAgg,push_cast,↓reduceIte,qa,qb,qc,qd,qe,qf,qg,qh,qi]
       refine ab.pure (rU 3 (by omega) y (hdo y (List.mem_of_getElem? hy))) rfl ?_
       simp(maxSteps:=9^7) (disch:=try exact dI) only[Val.cells_len,Val.ones,push_cast,↓reduceIte,qa,qb,qc,qd,qe,qf,qg,qh,qi]
       have hnx:=fH hq ⟨k1,k2,trivial⟩
       exact⟨q+1,aK (by simp(maxSteps:=9^7) (disch:=try exact dI) only[htq,List.map_append,push_cast,↓reduceIte,qa,qb,qc,qd,qe,qf,qg,qh,qi]),hnx,by omega⟩
      ·have hq':=fI hq hgq
       have hexit:¬ q<df.length\/(q<df.length/\¬ q<2):=(Nat.lt_or_ge q df.length).elim (fun h=>.inr ⟨h,fun h6=>hgq ⟨h,h6,trivial⟩⟩) (fun h=>.inl (by omega))
       rcases hexit with k1 | ⟨k1,k2⟩
       ·have k1I:¬ (q:Int)<df.length:=by omega
        simp(maxSteps:=9^7) (disch:=try exact dI) only[push_cast,↓reduceIte,qa,qb,qc,qd,qe,qf,qg,qh,qi]
        exact⟨q,hq',by simp(maxSteps:=9^7) (disch:=try exact dI) only[push_cast,↓reduceIte,qa,qb,qc,qd,qe,qf,qg,qh,qi]⟩
       ·have k1I:(q:Int)<df.length:=by omega
        have k2I:¬ (q:Int)<2:=by omega
        simp(maxSteps:=9^7) (disch:=try exact dI) only[push_cast,↓reduceIte,qa,qb,qc,qd,qe,qf,qg,qh,qi]
        exact⟨q,hq',by simp(maxSteps:=9^7) (disch:=try exact dI) only[push_cast,↓reduceIte,qa,qb,qc,qd,qe,qf,qg,qh,qi]⟩
     ·intro q hq s1 hs1;simp(maxSteps:=9^7) (disch:=try exact dI) only[push_cast,↓reduceIte,qa,qb,qc,qd,qe,qf,qg,qh,qi] at hs1;subst hs1
      have hd:(df.take q).map (aP 3)=(df.take 2).map (aP 3):=by rw[hq,fG,if_pos trivial]
      rw[hd]
      simp(maxSteps:=9^7) (disch:=try exact dI) only[Nat.add_sub_cancel,Int.add_sub_cancel,push_cast,↓reduceIte,qa,qb,qc,qd,qe,qf,qg,qh,qi]
      refine ae hcall rfl ?_
      simp(maxSteps:=9^7) (disch:=try exact dI) only[o1,o2,o3,o4,o5,o6,o7,push_cast,↓reduceIte,qa,qb,qc,qd,qe,qf,qg,qh,qi]
      exact⟨m+1,aK (by simp(maxSteps:=9^7) (disch:=try exact dI) only[hts,List.map_append,ct,TFd.pv_mk,hcs,push_cast,↓reduceIte,qa,qb,qc,qd,qe,qf,qg,qh,qi]),fH hm hgo',by omega⟩
    ·have hm':=fI hm hgo
     have hexit:¬ m<f.length\/(m<f.length/\¬ m<6)\/(m<f.length/\m<6/\¬ 1<n):=by omega
     rcases hexit with g1 | ⟨g1,g2⟩ | ⟨g1,g2,g3⟩
     ·have g1I:¬ (m:Int)<f.length:=by omega
      simp(maxSteps:=9^7) (disch:=try exact dI) only[push_cast,↓reduceIte,qa,qb,qc,qd,qe,qf,qg,qh,qi]
      exact⟨m,hm',by simp(maxSteps:=9^7) (disch:=try exact dI) only[push_cast,↓reduceIte,qa,qb,qc,qd,qe,qf,qg,qh,qi]⟩
     ·have g1I:(m:Int)<f.length:=by omega
      have g2I:¬ (m:Int)<6:=by omega
      simp(maxSteps:=9^7) (disch:=try exact dI) only[push_cast,↓reduceIte,qa,qb,qc,qd,qe,qf,qg,qh,qi]
      exact⟨m,hm',by simp(maxSteps:=9^7) (disch:=try exact dI) only[push_cast,↓reduceIte,qa,qb,qc,qd,qe,qf,qg,qh,qi]⟩
     ·have g1I:(m:Int)<f.length:=by omega
      have g2I:(m:Int)<6:=by omega
      have g3I:¬ (1:Int)<n:=by omega
      simp(maxSteps:=9^7) (disch:=try exact dI) only[push_cast,↓reduceIte,qa,qb,qc,qd,qe,qf,qg,qh,qi]
      exact⟨m,hm',by simp(maxSteps:=9^7) (disch:=try exact dI) only[push_cast,↓reduceIte,qa,qb,qc,qd,qe,qf,qg,qh,qi]⟩
   ·intro q hq s1 hs1;simp(maxSteps:=9^7) (disch:=try exact dI) only[push_cast,↓reduceIte,qa,qb,qc,qd,qe,qf,qg,qh,qi] at hs1;subst hs1
    have hf:(f.take q).map (ct (aX (n - 1)))=if decide (1<n)=true then (f.take 6).map (ct (aX (n - 1))) else []:=by
     rw[hq,fG];by_cases h:1<n<;>simp[h]
    have hfin:(aX n (.mk k a b c w e f)).pv = .agg [.int .i64 k,.int .i64 a,.int .i64 b,.int .i64 c,.list (W.map PV.str),.list (E.map Typ.pv),.list (((f.take q).map (ct (aX (n - 1)))).map TFd.pv)]:=by
     rw[he,hf,hW]
     cases n with
     | zero=>simp[aX,dm,Typ.pv_mk]
     | succ n=>simp[aX,dm,Typ.pv_mk]
    rw[hfin]
    simp(maxSteps:=9^7) (disch:=try exact dI) only[push_cast,↓reduceIte,qa,qb,qc,qd,qe,qf,qg,qh,qi]
theorem rW:∀ (n:Nat) (hn:n<=1000) (v:Typ),v.ok->ak Tryz.prog aq 31 [v.pv,.int .i64 n] (aX n v).pv:=by
 intro n
 induction n using Nat.strongRecOn with
 | _ n ih=>exact fun hn v hv=>Br n hn (fun m v hmn=>ih m hmn (by omega) v) v hv
theorem DL (l:List TFd)(g:Nat)(cs:List PV)(q:TFd->Bool)(hq:∀ x∈l,ak Tryz.prog aq g (x.pv::cs) (.bool (q x)))(hl:l.length<=1000000000) :
  ak Tryz.prog aq 147 [.list (l.map TFd.pv),.clo g [] cs] (.int .i64 (eZ q l 0)):=by
 refine ak.intro K3.2 (by simp[K3]) ?_
 simp(disch:=try exact dI) only[K3,push_cast,seval]
 refine ap ([]) (fun m:Nat=>[(8,.pv (.int .i64 (m:Int)))]) (fun m=>[]) (fun m=>m<=l.length/\eZ q l 0=eZ q (l.drop m) m) (fun m=>l.length - m) (0) ?_;intro e0 σ0 n0 h0;simp(disch:=try exact dI) only[push_cast,seval] at h0;obtain⟨rfl,rfl,rfl⟩:=h0;refine⟨?_,?_,?_⟩
 ·exact qsZ
 ·exact⟨by omega,by simp⟩
 ·rintro m ⟨hm,he⟩
  by_cases hlt:m<l.length
  ·have hltI:(m:Int)<l.length:=by omega
   obtain⟨x,hx⟩:∃ x,l[m]? = some x:=⟨_,List.getElem?_eq_getElem hlt⟩
   have hcall:=hq x (List.mem_of_getElem? hx)
   simp(disch:=try exact dI) only[hx,TFd.cells_len,TFd.isAgg,push_cast,seval]
   refine ab.pure hcall (by exact pD (x.pv::cs)) ?_
   cases hqx:q x with
   | true=>
     rw[he,fq hx hqx]
     exact qsZ
   | false=>
     rw[dG hx hqx] at he
     refine zgZ ?_
     exact⟨m+1,aK qsZ,⟨by omega,he⟩,by omega⟩
  ·have hltI:¬ (m:Int)<l.length:=by omega
   rw[he,ft hlt]
   exact qsZ
theorem nt (l:List TFd)(g:Nat)(cs:List PV)(q:TFd->Bool)(hq:∀ x∈l,ak Tryz.prog aq g (x.pv::cs) (.bool (q x)))(hl:l.length<=1000000000) :
  ak Tryz.prog aq 96 [.list (l.map TFd.pv),.clo g [] cs] (.bool (l.any q)):=by
 have h94:=DL l g cs q hq hl
 have hfa:=io (p:=q) l
 refine ak.intro Q96.2 (by simp[Q96]) ?_
 rcases ck (p:=q) l 0 with ⟨h1,h2⟩ | ⟨k,x,h1,h2,h3⟩
 ·rw[h2] at h94
  rw[h1] at hfa
  rw[<- hfa]
  simp(disch:=try exact dI) only[Q96,push_cast,seval]
  refine ab.pure h94 rfl ?_
  refine zgZ ?_
  exact .refl _
 ·rw[h3] at h94
  rw[h2] at hfa
  rw[<- hfa]
  have hk:(0:Int)<=((0+k:Nat):Int):=by omega
  generalize ((0+k:Nat):Int)=z at *
  simp(disch:=try exact dI) only[Q96,push_cast,seval]
  refine ab.pure h94 rfl ?_
  refine zgZ ?_
  exact .refl _
def qT (f:TFd):Bool:=decide (f.typ.kind<1)||decide (7<f.typ.kind)
theorem QP (f:TFd):ak Tryz.prog aq 97 [f.pv] (.bool (qT f)):=by
 obtain⟨a,b,c,⟨k,m,n,s,w,e,fs⟩,d⟩:=f
 refine ak.intro Q97.2 (by simp[Q97]) ?_
 simp only[qT,TFd.typ,Typ.kind]
 by_cases h1:k<1
 ·simp(disch:=try exact dI) only[Q97,TFd.pv_mk,Typ.pv_mk,push_cast,seval]
  simp[h1]
 ·by_cases h2:7<k
  ·simp(disch:=try exact dI) only[Q97,TFd.pv_mk,Typ.pv_mk,push_cast,seval]
   simp[h1,h2]
  ·simp(disch:=try exact dI) only[Q97,TFd.pv_mk,Typ.pv_mk,push_cast,seval]
   simp[h1,h2]
def oq:Typ->Bool
 | .mk k _ _ _ _ _ f=>decide (k=9)&&(decide (0<f.length)&&!(f.any qT))
theorem Qy (t:Typ)(h:t.fields.length<=1000000):ak Tryz.prog aq 49 [t.pv] (.bool (oq t)):=by
 obtain⟨k,m,n,s,w,e,f⟩:=t
 simp only[Typ.fields] at h
 have h64:=nt f 97 [] qT (fun x _=>QP x) (by omega)
 refine ak.intro Q49.2 (by simp[Q49]) ?_
 simp only[oq]
 by_cases h1:k=9
 ·by_cases h2:0<f.length
  ·have h2I:(0:Int)<f.length:=by omega
   simp(disch:=try exact dI) only[Q49,Typ.pv_mk,h1,push_cast,seval]
   refine ab.pure h64 rfl ?_
   exact qsZ
  ·have h2I:¬ (0:Int)<f.length:=by omega
   simp(disch:=try exact dI) only[Q49,Typ.pv_mk,h1,push_cast,seval]
 ·simp(disch:=try exact dI) only[Q49,Typ.pv_mk,h1,push_cast,seval]
theorem rX (rec:Typ->Typ)(f:TFd):(ct rec f).typ=rec f.typ:=by
 obtain⟨a,b,c,t,d⟩:=f;rfl
end Go.Proofs.YtbaaokocnegdoaaGreatDoor
