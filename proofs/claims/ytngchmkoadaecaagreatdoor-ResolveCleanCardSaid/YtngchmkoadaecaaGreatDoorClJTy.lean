/- A part. -/
import Derived.Test.YtngchmkoadaecaaGreatDoorClJS
set_option linter.unusedVariables false
set_option linter.unusedSimpArgs false
set_option maxHeartbeats 16000000
set_option maxRecDepth 100000
open List renaming take->Vw,getElem?_eq_getElem->Uq,map_append->UH,mem_of_getElem?->Us
open Int renaming add_sub_cancel->U7
namespace Go.Proofs.YtngchmkoadaecaaGreatDoor
open Go Go.Ab
section
variable {on:Prop}[Decidable on]{len k m:Nat}
def cS (on:Prop)[Decidable on](len k:Nat):Nat:=if on then min len k else 0
theorem cb {α:Type}(l:List α)(k:Nat):l.take (cS on l.length k)=if on then l.take k else []:=by
 unfold cS
 split
 ·rw[Nat.min_comm,<- List.take_take,List.take_of_length_le (Nat.le_refl _)]
 ·simp
theorem cf (hm:m<=cS on len k)(h:¬ (m<len/\m<k/\on)):m=cS on len k:=by
 unfold cS at hm ⊢
 by_cases h1:on
 ·rw[if_pos h1] at hm ⊢
  have:¬ (m<len/\m<k):=fun hh=>h ⟨hh.1,hh.2,h1⟩
  omega
 ·rw[if_neg h1] at hm ⊢;omega
theorem ce (hm:m<=cS on len k)(h:m<len/\m<k/\on):m+1<=cS on len k:=by
 unfold cS at hm ⊢
 rw[if_pos h.2.2] at hm ⊢;omega
end
def fP (rec:Typ->Typ):TFd->TFd
 | .mk a b c t d=>.mk a (b.take 40) c (rec t) ((d.take 2).map (bU 3))
def gT (rec:Typ->Typ)(on:Bool):Typ->Typ
 | .mk k a b c w e f=>.mk k a b c ((w.take 6).map (Vw 40)) (if on then (e.take 2).map rec else []) (if on then (f.take 6).map (fP rec) else [])
def cq:Nat->Typ->Typ
 | 0=>gT id false
 | n+1=>gT (cq n) (decide (0<n))
theorem zm (n:Nat)(hn:n<=1000)(ih:∀ m v,m<n->v.ok->ap Tryz.prog aB 18 [v.pv,.int .i64 m] (cq m v).pv)(v:Typ)(hv:v.ok):ap Tryz.prog aB 18 [v.pv,.int .i64 n] (cq n v).pv:=by
 obtain⟨k,a,b,c,w,e,f⟩:=v
 rw[Ul] at hv
 obtain⟨h1,h2,h3,h4,h5,h6,h7,h8,h9,h10⟩:=hv
 refine ap.intro Q18.2 (by simp[Q18]) ?_
 simp(maxSteps:=9^7) (disch:=try exact dI) only[Q18,Um,push_cast,seval]
 refine dC ([(5,0,9,1)]) (fun m:Nat=>[(5,.olist 2 1 (((w.take m).map (Vw 40)).map PV.str)),(8,.pv (.int .i64 (m:Int)))]) (fun _=>[]) (fun m=>m<=cS True w.length 6) (fun m=>6 - m) (0) ([1,2,4,5,6,7]) (fun m=>m=cS True w.length 6) ?_;intro e0 σ0 n0 h0;simp(maxSteps:=9^7) (disch:=try exact dI) only[push_cast,seval] at h0;obtain⟨rfl,rfl,rfl⟩:=h0;refine⟨?_,?_,?_,?_⟩
 ·simp(maxSteps:=9^7) (disch:=try exact dI) only[push_cast,seval]
 ·omega
 ·intro m hm
  by_cases hgo:m<w.length/\m<6/\True
  ·obtain⟨g1,g2,_⟩:=hgo
   have g1I:(m:Int)<w.length:=by omega
   have g2I:(m:Int)<6:=by omega
   obtain⟨x,hx⟩:∃ x,w[m]? = some x:=⟨_,Uq g1⟩
   have hts:=aC hx
   simp(maxSteps:=9^7) (disch:=try exact dI) only[hx,push_cast,seval]
   have hnx:=ce hm ⟨g1,g2,trivial⟩
   exact⟨m+1,aN (by simp(maxSteps:=9^7) (disch:=try exact dI) only[hts,UH,push_cast,seval]),hnx,by omega⟩
  ·have hm':=cf hm hgo
   have hexit:¬ m<w.length\/(m<w.length/\¬ m<6):=(Nat.lt_or_ge m w.length).elim (fun h=>.inr ⟨h,fun h6=>hgo ⟨h,h6,trivial⟩⟩) (fun h=>.inl (by omega))
   rcases hexit with g1 | ⟨g1,g2⟩
   ·have g1I:¬ (m:Int)<w.length:=by omega
    simp(maxSteps:=9^7) (disch:=try exact dI) only[push_cast,seval]
    exact⟨m,hm',qsZ⟩
   ·have g1I:(m:Int)<w.length:=by omega
    have g2I:¬ (m:Int)<6:=by omega
    simp(maxSteps:=9^7) (disch:=try exact dI) only[push_cast,seval]
    exact⟨m,hm',qsZ⟩
 ·intro m hm s1 hs1;simp(maxSteps:=9^7) (disch:=try exact dI) only[push_cast,seval] at hs1;subst hs1
  have hw:(w.take m).map (Vw 40)=(w.take 6).map (Vw 40):=by rw[hm,cb,if_pos trivial]
  rw[hw]
  obtain⟨W,hW⟩:∃ W,W=(w.take 6).map (Vw 40):=⟨_,rfl⟩
  rw[<- hW]
  clear hw hm
  simp(maxSteps:=9^7) (disch:=try exact dI) only[push_cast,seval]
  refine dC ([(6,0,70,7)]) (fun m:Nat=>[(6,.olist 3 7 (((e.take m).map (cq (n - 1))).map Typ.pv)),(9,.pv (.int .i64 (m:Int)))]) (fun _=>[]) (fun m=>m<=cS (1<n) e.length 2) (fun m=>2 - m) (0) ([1,2,4,5,6,7]) (fun m=>m=cS (1<n) e.length 2) ?_;intro e0 σ0 n0 h0;simp(maxSteps:=9^7) (disch:=try exact dI) only[push_cast,seval] at h0;obtain⟨rfl,rfl,rfl⟩:=h0;refine⟨?_,?_,?_,?_⟩
  ·simp(maxSteps:=9^7) (disch:=try exact dI) only[push_cast,seval]
  ·omega
  ·intro m hm
   by_cases hgo:m<e.length/\m<2/\1<n
   ·have hgo':=hgo
    obtain⟨g1,g2,g3⟩:=hgo
    have g1I:(m:Int)<e.length:=by omega
    have g2I:(m:Int)<2:=by omega
    have g3I:(1:Int)<n:=by omega
    obtain⟨x,hx⟩:∃ x,e[m]? = some x:=⟨_,Uq g1⟩
    obtain⟨n',rfl⟩:∃ n',n=n'+1:=⟨n - 1,by omega⟩
    have hts:=aC hx
    simp(maxSteps:=9^7) (disch:=try exact dI) only[hx,Typ.cells_len,Typ.isAgg,Nat.add_sub_cancel,U7,push_cast,seval]
    refine ab.pure (ih n' x (by omega) (h8 x (Us hx))) rfl ?_
    simp(maxSteps:=9^7) (disch:=try exact dI) only[Typ.cells_len,Typ.ones,push_cast,seval]
    exact⟨m+1,aN (by simp(maxSteps:=9^7) (disch:=try exact dI) only[hts,UH,push_cast,seval]),ce hm hgo',by omega⟩
   ·have hm':=cf hm hgo
    have hexit:¬ m<e.length\/(m<e.length/\¬ m<2)\/(m<e.length/\m<2/\¬ 1<n):=by omega
    rcases hexit with g1 | ⟨g1,g2⟩ | ⟨g1,g2,g3⟩
    ·have g1I:¬ (m:Int)<e.length:=by omega
     simp(maxSteps:=9^7) (disch:=try exact dI) only[push_cast,seval]
     exact⟨m,hm',qsZ⟩
    ·have g1I:(m:Int)<e.length:=by omega
     have g2I:¬ (m:Int)<2:=by omega
     simp(maxSteps:=9^7) (disch:=try exact dI) only[push_cast,seval]
     exact⟨m,hm',qsZ⟩
    ·have g1I:(m:Int)<e.length:=by omega
     have g2I:(m:Int)<2:=by omega
     have g3I:¬ (1:Int)<n:=by omega
     simp(maxSteps:=9^7) (disch:=try exact dI) only[push_cast,seval]
     exact⟨m,hm',qsZ⟩
  ·intro m hm s1 hs1;simp(maxSteps:=9^7) (disch:=try exact dI) only[push_cast,seval] at hs1;subst hs1
   have he:(e.take m).map (cq (n - 1))=if decide (1<n)=true then (e.take 2).map (cq (n - 1)) else []:=by
    rw[hm,cb];by_cases h:1<n<;>simp[h]
   obtain⟨E,hE⟩:∃ E,E=(e.take m).map (cq (n - 1)):=⟨_,rfl⟩
   rw[<- hE] at he ⊢
   clear hE hm
   simp(maxSteps:=9^7) (disch:=try exact dI) only[push_cast,seval]
   refine dC ([(7,0,105,11)]) (fun m:Nat=>[(7,.olist 4 11 (((f.take m).map (fP (cq (n - 1)))).map TFd.pv)),(10,.pv (.int .i64 (m:Int)))]) (fun _=>[]) (fun m=>m<=cS (1<n) f.length 6) (fun m=>6 - m) (0) ([2,4,5,6,7]) (fun m=>m=cS (1<n) f.length 6) ?_;intro e0 σ0 n0 h0;simp(maxSteps:=9^7) (disch:=try exact dI) only[push_cast,seval] at h0;obtain⟨rfl,rfl,rfl⟩:=h0;refine⟨?_,?_,?_,?_⟩
   ·simp(maxSteps:=9^7) (disch:=try exact dI) only[push_cast,seval]
   ·omega
   ·intro m hm
    by_cases hgo:m<f.length/\m<6/\1<n
    ·have hgo':=hgo
     obtain⟨g1,g2,g3⟩:=hgo
     have g1I:(m:Int)<f.length:=by omega
     have g2I:(m:Int)<6:=by omega
     have g3I:(1:Int)<n:=by omega
     obtain⟨x,hx⟩:∃ x,f[m]? = some x:=⟨_,Uq g1⟩
     have hxo:=h10 x (Us hx)
     obtain⟨nu,nm,ne,ty,df⟩:=x
     rw[Ug] at hxo
     obtain⟨n',rfl⟩:∃ n',n=n'+1:=⟨n - 1,by omega⟩
     have hcall:=ih n' ty (by omega) hxo.2.2.2.1
     have hdl:df.length<=9223372036854775807:=by have:=hxo.2.2.2.2.1;omega
     have hdo:=hxo.2.2.2.2.2
     have hts:=aC hx
     obtain⟨w1,w2,w3,w4,w5,w6,w7⟩:=ty
     rw[Um] at hcall
     obtain⟨cs,hcs,hcl,hco⟩:=Typ.row (cq n' (.mk w1 w2 w3 w4 w5 w6 w7))
     have hone:cs.all PV.one=true:=List.all_eq_true.2 hco
     rw[hcs] at hcall
     obtain⟨u1,u2,u3,u4,u5,u6,u7,rfl⟩:=BK hcl
     simp only[List.all_cons,List.all_nil,Bool.and_true,Bool.and_eq_true] at hone
     obtain⟨o1,o2,o3,o4,o5,o6,o7⟩:=hone
     simp(maxSteps:=9^7) (disch:=try exact dI) only[hx,Uh,Um,Nat.add_sub_cancel,U7,push_cast,seval]
     refine dC ([(12,0,108,6)]) (fun q:Nat=>[(12,.olist 6 6 (((df.take q).map (bU 3)).map Val.pv)),(13,.pv (.int .i64 (q:Int)))]) (fun _=>[]) (fun q=>q<=cS True df.length 2) (fun q=>2 - q) (0) ([1,2,4,5,6,7,10,11,12]) (fun q=>q=cS True df.length 2) ?_;intro e0 σ0 n0 h0;simp(maxSteps:=9^7) (disch:=try exact dI) only[push_cast,seval] at h0;obtain⟨rfl,rfl,rfl⟩:=h0;refine⟨?_,?_,?_,?_⟩
     ·simp(maxSteps:=9^7) (disch:=try exact dI) only[push_cast,seval]
     ·omega
     ·intro q hq
      by_cases hgq:q<df.length/\q<2/\True
      ·obtain⟨k1,k2,_⟩:=hgq
       have k1I:(q:Int)<df.length:=by omega
       have k2I:(q:Int)<2:=by omega
       obtain⟨y,hy⟩:∃ y,df[q]? = some y:=⟨_,Uq k1⟩
       have htq:=aC hy
       simp(maxSteps:=9^7) (disch:=try exact dI) only[hy,Val.cells_len,Val.isAgg,push_cast,seval]
       refine ab.pure (pY 3 (by omega) y (hdo y (Us hy))) rfl ?_
       simp(maxSteps:=9^7) (disch:=try exact dI) only[Val.cells_len,Val.ones,push_cast,seval]
       have hnx:=ce hq ⟨k1,k2,trivial⟩
       exact⟨q+1,aN (by simp(maxSteps:=9^7) (disch:=try exact dI) only[htq,UH,push_cast,seval]),hnx,by omega⟩
      ·have hq':=cf hq hgq
       have hexit:¬ q<df.length\/(q<df.length/\¬ q<2):=(Nat.lt_or_ge q df.length).elim (fun h=>.inr ⟨h,fun h6=>hgq ⟨h,h6,trivial⟩⟩) (fun h=>.inl (by omega))
       rcases hexit with k1 | ⟨k1,k2⟩
       ·have k1I:¬ (q:Int)<df.length:=by omega
        simp(maxSteps:=9^7) (disch:=try exact dI) only[push_cast,seval]
        exact⟨q,hq',qsZ⟩
       ·have k1I:(q:Int)<df.length:=by omega
        have k2I:¬ (q:Int)<2:=by omega
        simp(maxSteps:=9^7) (disch:=try exact dI) only[push_cast,seval]
        exact⟨q,hq',qsZ⟩
     ·intro q hq s1 hs1;simp(maxSteps:=9^7) (disch:=try exact dI) only[push_cast,seval] at hs1;subst hs1
      have hd:(df.take q).map (bU 3)=(df.take 2).map (bU 3):=by rw[hq,cb,if_pos trivial]
      rw[hd]
      simp(maxSteps:=9^7) (disch:=try exact dI) only[Nat.add_sub_cancel,U7,push_cast,seval]
      refine au hcall rfl ?_
      simp(maxSteps:=9^7) (disch:=try exact dI) only[o1,o2,o3,o4,o5,o6,o7,push_cast,seval]
      exact⟨m+1,aN (by simp(maxSteps:=9^7) (disch:=try exact dI) only[hts,UH,fP,Uh,hcs,push_cast,seval]),ce hm hgo',by omega⟩
    ·have hm':=cf hm hgo
     have hexit:¬ m<f.length\/(m<f.length/\¬ m<6)\/(m<f.length/\m<6/\¬ 1<n):=by omega
     rcases hexit with g1 | ⟨g1,g2⟩ | ⟨g1,g2,g3⟩
     ·have g1I:¬ (m:Int)<f.length:=by omega
      simp(maxSteps:=9^7) (disch:=try exact dI) only[push_cast,seval]
      exact⟨m,hm',qsZ⟩
     ·have g1I:(m:Int)<f.length:=by omega
      have g2I:¬ (m:Int)<6:=by omega
      simp(maxSteps:=9^7) (disch:=try exact dI) only[push_cast,seval]
      exact⟨m,hm',qsZ⟩
     ·have g1I:(m:Int)<f.length:=by omega
      have g2I:(m:Int)<6:=by omega
      have g3I:¬ (1:Int)<n:=by omega
      simp(maxSteps:=9^7) (disch:=try exact dI) only[push_cast,seval]
      exact⟨m,hm',qsZ⟩
   ·intro q hq s1 hs1;simp(maxSteps:=9^7) (disch:=try exact dI) only[push_cast,seval] at hs1;subst hs1
    have hf:(f.take q).map (fP (cq (n - 1)))=if decide (1<n)=true then (f.take 6).map (fP (cq (n - 1))) else []:=by
     rw[hq,cb];by_cases h:1<n<;>simp[h]
    have hfin:(cq n (.mk k a b c w e f)).pv = .agg [.int .i64 k,.int .i64 a,.int .i64 b,.int .i64 c,.list (W.map PV.str),.list (E.map Typ.pv),.list (((f.take q).map (fP (cq (n - 1)))).map TFd.pv)]:=by
     rw[he,hf,hW]
     cases n with
     | zero=>simp[cq,gT,Um]
     | succ n=>simp[cq,gT,Um]
    rw[hfin]
    simp(maxSteps:=9^7) (disch:=try exact dI) only[push_cast,seval]
theorem pZ:∀ (n:Nat) (hn:n<=1000) (v:Typ),v.ok->ap Tryz.prog aB 18 [v.pv,.int .i64 n] (cq n v).pv:=by
 intro n
 induction n using Nat.strongRecOn with
 | _ n ih=>exact fun hn v hv=>zm n hn (fun m v hmn=>ih m hmn (by omega) v) v hv
