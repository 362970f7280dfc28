/- A part. -/
import Derived.Test.YtngchmkoadaecaaGreatDoorPbJS
set_option linter.unusedVariables false
set_option linter.unusedSimpArgs false
set_option maxHeartbeats 16000000
set_option maxRecDepth 100000
open List renaming take->X9,getElem?_eq_getElem->WT,map_append->Xe,mem_of_getElem?->WV,all_eq_true->Xb,all_cons->XI,all_nil->XM
open Nat renaming lt_or_ge->XF
open Int renaming add_sub_cancel->XG
namespace Go.Proofs.YtngchmkoadaecaaGreatDoor
open Go Go.Ab
section
variable {on:Prop}[Decidable on]{len k m:Nat}
def dm (on:Prop)[Decidable on](len k:Nat):Nat:=if on then min len k else 0
theorem cy {α:Type}(l:List α)(k:Nat):l.take (dm on l.length k)=if on then l.take k else []:=by
 unfold dm
 split
 ·rw[Nat.min_comm,<- List.take_take,List.take_of_length_le (Nat.le_refl _)]
 ·simp
theorem cB (hm:m<=dm on len k)(h:¬ (m<len/\m<k/\on)):m=dm on len k:=by
 unfold dm at hm ⊢
 by_cases h1:on
 ·rw[if_pos h1] at hm ⊢
  have:¬ (m<len/\m<k):=fun hh=>h ⟨hh.1,hh.2,h1⟩
  omega
 ·rw[if_neg h1] at hm ⊢;omega
theorem cz (hm:m<=dm on len k)(h:m<len/\m<k/\on):m+1<=dm on len k:=by
 unfold dm at hm ⊢
 rw[if_pos h.2.2] at hm ⊢;omega
end
def gq (rec:Typ->Typ):TFd->TFd
 | .mk a b c t d=>.mk a (b.take 40) c (rec t) ((d.take 2).map (ci 3))
def ik (rec:Typ->Typ)(on:Bool):Typ->Typ
 | .mk k a b c w e f=>.mk k a b c ((w.take 6).map (X9 40)) (if on then (e.take 2).map rec else []) (if on then (f.take 6).map (gq rec) else [])
def cE:Nat->Typ->Typ
 | 0=>ik id false
 | n+1=>ik (cE n) (decide (0<n))
theorem Br (n:Nat)(hn:n<=1000)(ih:∀ m v,m<n->v.ok->ap Tryz.prog aC 18 [v.pv,.int .i64 m] (cE m v).pv)(v:Typ)(hv:v.ok):ap Tryz.prog aC 18 [v.pv,.int .i64 n] (cE n v).pv:=by
 obtain⟨k,a,b,c,w,e,f⟩:=v
 rw[WN] at hv
 obtain⟨h1,h2,h3,h4,h5,h6,h7,h8,h9,h10⟩:=hv
 refine ap.intro Q18.2 (by simp[Q18]) ?_
 simp(maxSteps:=9^7) (disch:=try exact dI) only[Q18,WO,push_cast,seval]
 refine dY ([(5,0,9,1)]) (fun m:Nat=>[(5,.olist 2 1 (((w.take m).map (X9 40)).map PV.str)),(8,.pv (.int .i64 (m:Int)))]) (fun _=>[]) (fun m=>m<=dm True w.length 6) (fun m=>6 - m) (0) ([1,2,4,5,6,7]) (fun m=>m=dm True w.length 6) ?_;intro e0 σ0 n0 h0;simp(maxSteps:=9^7) (disch:=try exact dI) only[push_cast,seval] at h0;obtain⟨rfl,rfl,rfl⟩:=h0;refine⟨?_,?_,?_,?_⟩
 ·simp(maxSteps:=9^7) (disch:=try exact dI) only[push_cast,seval]
 ·omega
 ·intro m hm
  by_cases hgo:m<w.length/\m<6/\True
  ·obtain⟨g1,g2,_⟩:=hgo
   have g1I:(m:Int)<w.length:=by omega
   have g2I:(m:Int)<6:=by omega
   obtain⟨x,hx⟩:∃ x,w[m]? = some x:=⟨_,WT g1⟩
   have hts:=aE hx
   simp(maxSteps:=9^7) (disch:=try exact dI) only[hx,push_cast,seval]
   have hnx:=cz hm ⟨g1,g2,trivial⟩
   exact⟨m+1,aJ (by simp(maxSteps:=9^7) (disch:=try exact dI) only[hts,Xe,push_cast,seval]),hnx,by omega⟩
  ·have hm':=cB hm hgo
   have hexit:¬ m<w.length\/(m<w.length/\¬ m<6):=(XF m w.length).elim (fun h=>.inr ⟨h,fun h6=>hgo ⟨h,h6,trivial⟩⟩) (fun h=>.inl (by omega))
   rcases hexit with g1 | ⟨g1,g2⟩
   ·have g1I:¬ (m:Int)<w.length:=by omega
    simp(maxSteps:=9^7) (disch:=try exact dI) only[push_cast,seval]
    exact⟨m,hm',qsZ⟩
   ·have g1I:(m:Int)<w.length:=by omega
    have g2I:¬ (m:Int)<6:=by omega
    simp(maxSteps:=9^7) (disch:=try exact dI) only[push_cast,seval]
    exact⟨m,hm',qsZ⟩
 ·intro m hm s1 hs1;simp(maxSteps:=9^7) (disch:=try exact dI) only[push_cast,seval] at hs1;subst hs1
  have hw:(w.take m).map (X9 40)=(w.take 6).map (X9 40):=by rw[hm,cy,if_pos trivial]
  rw[hw]
  obtain⟨W,hW⟩:∃ W,W=(w.take 6).map (X9 40):=⟨_,rfl⟩
  rw[<- hW]
  clear hw hm
  simp(maxSteps:=9^7) (disch:=try exact dI) only[push_cast,seval]
  refine dY ([(6,0,70,7)]) (fun m:Nat=>[(6,.olist 3 7 (((e.take m).map (cE (n - 1))).map Typ.pv)),(9,.pv (.int .i64 (m:Int)))]) (fun _=>[]) (fun m=>m<=dm (1<n) e.length 2) (fun m=>2 - m) (0) ([1,2,4,5,6,7]) (fun m=>m=dm (1<n) e.length 2) ?_;intro e0 σ0 n0 h0;simp(maxSteps:=9^7) (disch:=try exact dI) only[push_cast,seval] at h0;obtain⟨rfl,rfl,rfl⟩:=h0;refine⟨?_,?_,?_,?_⟩
  ·simp(maxSteps:=9^7) (disch:=try exact dI) only[push_cast,seval]
  ·omega
  ·intro m hm
   by_cases hgo:m<e.length/\m<2/\1<n
   ·have hgo':=hgo
    obtain⟨g1,g2,g3⟩:=hgo
    have g1I:(m:Int)<e.length:=by omega
    have g2I:(m:Int)<2:=by omega
    have g3I:(1:Int)<n:=by omega
    obtain⟨x,hx⟩:∃ x,e[m]? = some x:=⟨_,WT g1⟩
    obtain⟨n',rfl⟩:∃ n',n=n'+1:=⟨n - 1,by omega⟩
    have hts:=aE hx
    simp(maxSteps:=9^7) (disch:=try exact dI) only[hx,Typ.cells_len,Typ.isAgg,Nat.add_sub_cancel,XG,push_cast,seval]
    refine ab.pure (ih n' x (by omega) (h8 x (WV hx))) rfl ?_
    simp(maxSteps:=9^7) (disch:=try exact dI) only[Typ.cells_len,Typ.ones,push_cast,seval]
    exact⟨m+1,aJ (by simp(maxSteps:=9^7) (disch:=try exact dI) only[hts,Xe,push_cast,seval]),cz hm hgo',by omega⟩
   ·have hm':=cB hm hgo
    have hexit:¬ m<e.length\/(m<e.length/\¬ m<2)\/(m<e.length/\m<2/\¬ 1<n):=by omega
    rcases hexit with g1 | ⟨g1,g2⟩ | ⟨g1,g2,g3⟩
    ·have g1I:¬ (m:Int)<e.length:=by omega
     simp(maxSteps:=9^7) (disch:=try exact dI) only[push_cast,seval]
     exact⟨m,hm',qsZ⟩
    ·have g1I:(m:Int)<e.length:=by omega
     have g2I:¬ (m:Int)<2:=by omega
     simp(maxSteps:=9^7) (disch:=try exact dI) only[push_cast,seval]
     exact⟨m,hm',qsZ⟩
    ·have g1I:(m:Int)<e.length:=by omega
     have g2I:(m:Int)<2:=by omega
     have g3I:¬ (1:Int)<n:=by omega
     simp(maxSteps:=9^7) (disch:=try exact dI) only[push_cast,seval]
     exact⟨m,hm',qsZ⟩
  ·intro m hm s1 hs1;simp(maxSteps:=9^7) (disch:=try exact dI) only[push_cast,seval] at hs1;subst hs1
   have he:(e.take m).map (cE (n - 1))=if decide (1<n)=true then (e.take 2).map (cE (n - 1)) else []:=by
    rw[hm,cy];by_cases h:1<n<;>simp[h]
   obtain⟨E,hE⟩:∃ E,E=(e.take m).map (cE (n - 1)):=⟨_,rfl⟩
   rw[<- hE] at he ⊢
   clear hE hm
   simp(maxSteps:=9^7) (disch:=try exact dI) only[push_cast,seval]
   refine dY ([(7,0,105,11)]) (fun m:Nat=>[(7,.olist 4 11 (((f.take m).map (gq (cE (n - 1)))).map TFd.pv)),(10,.pv (.int .i64 (m:Int)))]) (fun _=>[]) (fun m=>m<=dm (1<n) f.length 6) (fun m=>6 - m) (0) ([2,4,5,6,7]) (fun m=>m=dm (1<n) f.length 6) ?_;intro e0 σ0 n0 h0;simp(maxSteps:=9^7) (disch:=try exact dI) only[push_cast,seval] at h0;obtain⟨rfl,rfl,rfl⟩:=h0;refine⟨?_,?_,?_,?_⟩
   ·simp(maxSteps:=9^7) (disch:=try exact dI) only[push_cast,seval]
   ·omega
   ·intro m hm
    by_cases hgo:m<f.length/\m<6/\1<n
    ·have hgo':=hgo
     obtain⟨g1,g2,g3⟩:=hgo
     have g1I:(m:Int)<f.length:=by omega
     have g2I:(m:Int)<6:=by omega
     have g3I:(1:Int)<n:=by omega
     obtain⟨x,hx⟩:∃ x,f[m]? = some x:=⟨_,WT g1⟩
     have hxo:=h10 x (WV hx)
     obtain⟨nu,nm,ne,ty,df⟩:=x
     rw[WI] at hxo
     obtain⟨n',rfl⟩:∃ n',n=n'+1:=⟨n - 1,by omega⟩
     have hcall:=ih n' ty (by omega) hxo.2.2.2.1
     have hdl:df.length<=9223372036854775807:=by have:=hxo.2.2.2.2.1;omega
     have hdo:=hxo.2.2.2.2.2
     have hts:=aE hx
     obtain⟨w1,w2,w3,w4,w5,w6,w7⟩:=ty
     rw[WO] at hcall
     obtain⟨cs,hcs,hcl,hco⟩:=Typ.row (cE n' (.mk w1 w2 w3 w4 w5 w6 w7))
     have hone:cs.all PV.one=true:=Xb.2 hco
     rw[hcs] at hcall
     obtain⟨u1,u2,u3,u4,u5,u6,u7,rfl⟩:=Df hcl
     simp only[XI,XM,Bool.and_true,Bool.and_eq_true] at hone
     obtain⟨o1,o2,o3,o4,o5,o6,o7⟩:=hone
     simp(maxSteps:=9^7) (disch:=try exact dI) only[hx,WJ,WO,Nat.add_sub_cancel,XG,push_cast,seval]
     refine dY ([(12,0,108,6)]) (fun q:Nat=>[(12,.olist 6 6 (((df.take q).map (ci 3)).map Val.pv)),(13,.pv (.int .i64 (q:Int)))]) (fun _=>[]) (fun q=>q<=dm True df.length 2) (fun q=>2 - q) (0) ([1,2,4,5,6,7,10,11,12]) (fun q=>q=dm True df.length 2) ?_;intro e0 σ0 n0 h0;simp(maxSteps:=9^7) (disch:=try exact dI) only[push_cast,seval] at h0;obtain⟨rfl,rfl,rfl⟩:=h0;refine⟨?_,?_,?_,?_⟩
     ·simp(maxSteps:=9^7) (disch:=try exact dI) only[push_cast,seval]
     ·omega
     ·intro q hq
      by_cases hgq:q<df.length/\q<2/\True
      ·obtain⟨k1,k2,_⟩:=hgq
       have k1I:(q:Int)<df.length:=by omega
       have k2I:(q:Int)<2:=by omega
       obtain⟨y,hy⟩:∃ y,df[q]? = some y:=⟨_,WT k1⟩
       have htq:=aE hy
       simp(maxSteps:=9^7) (disch:=try exact dI) only[hy,Val.cells_len,Val.isAgg,push_cast,seval]
       refine ab.pure (rm 3 (by omega) y (hdo y (WV hy))) rfl ?_
       simp(maxSteps:=9^7) (disch:=try exact dI) only[Val.cells_len,Val.ones,push_cast,seval]
       have hnx:=cz hq ⟨k1,k2,trivial⟩
       exact⟨q+1,aJ (by simp(maxSteps:=9^7) (disch:=try exact dI) only[htq,Xe,push_cast,seval]),hnx,by omega⟩
      ·have hq':=cB hq hgq
       have hexit:¬ q<df.length\/(q<df.length/\¬ q<2):=(XF q df.length).elim (fun h=>.inr ⟨h,fun h6=>hgq ⟨h,h6,trivial⟩⟩) (fun h=>.inl (by omega))
       rcases hexit with k1 | ⟨k1,k2⟩
       ·have k1I:¬ (q:Int)<df.length:=by omega
        simp(maxSteps:=9^7) (disch:=try exact dI) only[push_cast,seval]
        exact⟨q,hq',qsZ⟩
       ·have k1I:(q:Int)<df.length:=by omega
        have k2I:¬ (q:Int)<2:=by omega
        simp(maxSteps:=9^7) (disch:=try exact dI) only[push_cast,seval]
        exact⟨q,hq',qsZ⟩
     ·intro q hq s1 hs1;simp(maxSteps:=9^7) (disch:=try exact dI) only[push_cast,seval] at hs1;subst hs1
      have hd:(df.take q).map (ci 3)=(df.take 2).map (ci 3):=by rw[hq,cy,if_pos trivial]
      rw[hd]
      simp(maxSteps:=9^7) (disch:=try exact dI) only[Nat.add_sub_cancel,XG,push_cast,seval]
      refine ag hcall rfl ?_
      simp(maxSteps:=9^7) (disch:=try exact dI) only[o1,o2,o3,o4,o5,o6,o7,push_cast,seval]
      exact⟨m+1,aJ (by simp(maxSteps:=9^7) (disch:=try exact dI) only[hts,Xe,gq,WJ,hcs,push_cast,seval]),cz hm hgo',by omega⟩
    ·have hm':=cB hm hgo
     have hexit:¬ m<f.length\/(m<f.length/\¬ m<6)\/(m<f.length/\m<6/\¬ 1<n):=by omega
     rcases hexit with g1 | ⟨g1,g2⟩ | ⟨g1,g2,g3⟩
     ·have g1I:¬ (m:Int)<f.length:=by omega
      simp(maxSteps:=9^7) (disch:=try exact dI) only[push_cast,seval]
      exact⟨m,hm',qsZ⟩
     ·have g1I:(m:Int)<f.length:=by omega
      have g2I:¬ (m:Int)<6:=by omega
      simp(maxSteps:=9^7) (disch:=try exact dI) only[push_cast,seval]
      exact⟨m,hm',qsZ⟩
     ·have g1I:(m:Int)<f.length:=by omega
      have g2I:(m:Int)<6:=by omega
      have g3I:¬ (1:Int)<n:=by omega
      simp(maxSteps:=9^7) (disch:=try exact dI) only[push_cast,seval]
      exact⟨m,hm',qsZ⟩
   ·intro q hq s1 hs1;simp(maxSteps:=9^7) (disch:=try exact dI) only[push_cast,seval] at hs1;subst hs1
    have hf:(f.take q).map (gq (cE (n - 1)))=if decide (1<n)=true then (f.take 6).map (gq (cE (n - 1))) else []:=by
     rw[hq,cy];by_cases h:1<n<;>simp[h]
    have hfin:(cE n (.mk k a b c w e f)).pv = .agg [.int .i64 k,.int .i64 a,.int .i64 b,.int .i64 c,.list (W.map PV.str),.list (E.map Typ.pv),.list (((f.take q).map (gq (cE (n - 1)))).map TFd.pv)]:=by
     rw[he,hf,hW]
     cases n with
     | zero=>simp[cE,ik,WO]
     | succ n=>simp[cE,ik,WO]
    rw[hfin]
    simp(maxSteps:=9^7) (disch:=try exact dI) only[push_cast,seval]
theorem rr:∀ (n:Nat) (hn:n<=1000) (v:Typ),v.ok->ap Tryz.prog aC 18 [v.pv,.int .i64 n] (cE n v).pv:=by
 intro n
 induction n using Nat.strongRecOn with
 | _ n ih=>exact fun hn v hv=>Br n hn (fun m v hmn=>ih m hmn (by omega) v) v hv
def kE:Sch->Sch
 | .mk n v t=>.mk (n.take 70) v (cE 4 t)
def ED:Fmt->Fmt
 | .mk k s w=>.mk k s (w.take 8)
def kG:Enp->Enp
 | .mk n k s v f=>.mk (n.take 70) k (s.take 70) v (ED f)
def kD:Svc->Svc
 | .mk n r p u=>.mk (n.take 70) (r.take 70) (p.take 70) u
def g5:Rou->Rou
 | .mk n f s=>.mk (n.take 70) (f.take 70) (bM 4 s)
def eU:Prg->Prg
 | .mk v s e w r=>.mk v ((s.take 6).map kE) ((e.take 6).map kG) ((w.take 6).map kD) ((r.take 6).map g5)
theorem GP (p:Prg)(hp:p.ok):ap Tryz.prog aC 5 [p.pv] (eU p).pv:=by
 obtain⟨v,ss,es,ws,rs⟩:=p
 rw[Wu] at hp
 obtain⟨_,hsl,hso,hel,heo,hwl,hwo,hrl,hro⟩:=hp
 refine ap.intro Q5.2 (by simp[Q5]) ?_
 simp(maxSteps:=9^7) (disch:=try exact dI) only[Q5,Wv,push_cast,seval]
 refine dY ([(3,2,72,9)]) (fun m:Nat=>[(4,.pv (.int .i64 (m:Int)))]) (fun m=>[(1,.cells 27 true [.pv (.int .i64 v),.olist 2 9 (((ss.take m).map kE).map Sch.pv),.pv .nils,.pv .nils,.pv .nils])]) (fun m=>m<=dm True ss.length 6) (fun m=>6 - m) (0) ([1,2,3]) (fun m=>m=dm True ss.length 6) ?_;intro e0 σ0 n0 h0;simp(maxSteps:=9^7) (disch:=try exact dI) only[push_cast,seval] at h0;obtain⟨rfl,rfl,rfl⟩:=h0;refine⟨?_,?_,?_,?_⟩
 ·simp(maxSteps:=9^7) (disch:=try exact dI) only[push_cast,seval]
 ·omega
 ·intro m hm
  by_cases hgo:m<ss.length/\m<6/\True
  ·obtain⟨g1,g2,_⟩:=hgo
   have g1I:(m:Int)<ss.length:=by omega
   have g2I:(m:Int)<6:=by omega
   obtain⟨x,hx⟩:∃ x,ss[m]? = some x:=⟨_,WT g1⟩
   have hnx:=cz hm ⟨g1,g2,trivial⟩
   have hts:=aE hx
   have hxo:=hso x (WV hx)
   obtain⟨nm,ve,ty⟩:=x
   rw[WC] at hxo
   have hcall:=rr 4 (by omega) ty hxo.2.2
   obtain⟨w1,w2,w3,w4,w5,w6,w7⟩:=ty
   rw[WO] at hcall
   obtain⟨cs,hcs,hcl,hco⟩:=Typ.row (cE 4 (.mk w1 w2 w3 w4 w5 w6 w7))
   have hone:cs.all PV.one=true:=Xb.2 hco
   rw[hcs] at hcall
   obtain⟨u1,u2,u3,u4,u5,u6,u7,rfl⟩:=Df hcl
   simp only[XI,XM,Bool.and_true,Bool.and_eq_true] at hone
   obtain⟨o1,o2,o3,o4,o5,o6,o7⟩:=hone
   simp(maxSteps:=9^7) (disch:=try exact dI) only[hx,WD,WO,push_cast,seval]
   refine ag (e6 nm) rfl ?_
   simp(maxSteps:=9^7) (disch:=try exact dI) only[push_cast,seval]
   refine ag hcall rfl ?_
   simp(maxSteps:=9^7) (disch:=try exact dI) only[o1,o2,o3,o4,o5,o6,o7,push_cast,seval]
   exact⟨m+1,aJ (by simp(maxSteps:=9^7) (disch:=try exact dI) only[hts,Xe,kE,WD,hcs,push_cast,seval]),hnx,by omega⟩
  ·have hm':=cB hm hgo
   have hexit:¬ m<ss.length\/(m<ss.length/\¬ m<6):=(XF m ss.length).elim (fun h=>.inr ⟨h,fun h6=>hgo ⟨h,h6,trivial⟩⟩) (fun h=>.inl (by omega))
   rcases hexit with g1 | ⟨g1,g2⟩
   ·have g1I:¬ (m:Int)<ss.length:=by omega
    simp(maxSteps:=9^7) (disch:=try exact dI) only[push_cast,seval]
    exact⟨m,hm',qsZ⟩
   ·have g1I:(m:Int)<ss.length:=by omega
    have g2I:¬ (m:Int)<6:=by omega
    simp(maxSteps:=9^7) (disch:=try exact dI) only[push_cast,seval]
    exact⟨m,hm',qsZ⟩
 ·intro m hm s1 hs1;simp(maxSteps:=9^7) (disch:=try exact dI) only[push_cast,seval] at hs1;subst hs1
  have hq:(ss.take m).map kE=(ss.take 6).map kE:=by rw[hm,cy,if_pos trivial]
  rw[hq]
  obtain⟨SS,hSS⟩:∃ SS,SS=(ss.take 6).map kE:=⟨_,rfl⟩
  rw[<- hSS]
  clear hq hm
  simp(maxSteps:=9^7) (disch:=try exact dI) only[push_cast,seval]
  refine dY ([(3,3,39,7)]) (fun m:Nat=>[(6,.pv (.int .i64 (m:Int)))]) (fun m=>[(1,.cells 27 true [.pv (.int .i64 v),.olist 2 9 (SS.map Sch.pv),.olist 3 7 (((es.take m).map kG).map Enp.pv),.pv .nils,.pv .nils])]) (fun m=>m<=dm True es.length 6) (fun m=>6 - m) (0) ([1,2,3]) (fun m=>m=dm True es.length 6) ?_;intro e0 σ0 n0 h0;simp(maxSteps:=9^7) (disch:=try exact dI) only[push_cast,seval] at h0;obtain⟨rfl,rfl,rfl⟩:=h0;refine⟨?_,?_,?_,?_⟩
  ·simp(maxSteps:=9^7) (disch:=try exact dI) only[push_cast,seval]
  ·omega
  ·intro m hm
   by_cases hgo:m<es.length/\m<6/\True
   ·obtain⟨g1,g2,_⟩:=hgo
    have g1I:(m:Int)<es.length:=by omega
    have g2I:(m:Int)<6:=by omega
    obtain⟨x,hx⟩:∃ x,es[m]? = some x:=⟨_,WT g1⟩
    have hnx:=cz hm ⟨g1,g2,trivial⟩
    have hts:=aE hx
    obtain⟨nm,kk,sc,ve,fo⟩:=x
    obtain⟨f1,f2,f3⟩:=fo
    simp(maxSteps:=9^7) (disch:=try exact dI) only[hx,Wm,Ws,push_cast,seval]
    refine ag (e6 nm) rfl ?_
    simp(maxSteps:=9^7) (disch:=try exact dI) only[push_cast,seval]
    refine ag (e6 sc) rfl ?_
    simp(maxSteps:=9^7) (disch:=try exact dI) only[push_cast,seval]
    exact⟨m+1,aJ (by simp(maxSteps:=9^7) (disch:=try exact dI) only[hts,Xe,kG,ED,Wm,Ws,push_cast,seval]),hnx,by omega⟩
   ·have hm':=cB hm hgo
    have hexit:¬ m<es.length\/(m<es.length/\¬ m<6):=(XF m es.length).elim (fun h=>.inr ⟨h,fun h6=>hgo ⟨h,h6,trivial⟩⟩) (fun h=>.inl (by omega))
    rcases hexit with g1 | ⟨g1,g2⟩
    ·have g1I:¬ (m:Int)<es.length:=by omega
     simp(maxSteps:=9^7) (disch:=try exact dI) only[push_cast,seval]
     exact⟨m,hm',qsZ⟩
    ·have g1I:(m:Int)<es.length:=by omega
     have g2I:¬ (m:Int)<6:=by omega
     simp(maxSteps:=9^7) (disch:=try exact dI) only[push_cast,seval]
     exact⟨m,hm',qsZ⟩
  ·intro m hm s1 hs1;simp(maxSteps:=9^7) (disch:=try exact dI) only[push_cast,seval] at hs1;subst hs1
   have hq:(es.take m).map kG=(es.take 6).map kG:=by rw[hm,cy,if_pos trivial]
   rw[hq]
   obtain⟨ES,hES⟩:∃ ES,ES=(es.take 6).map kG:=⟨_,rfl⟩
   rw[<- hES]
   clear hq hm
   simp(maxSteps:=9^7) (disch:=try exact dI) only[push_cast,seval]
   refine dY ([(3,4,41,4)]) (fun m:Nat=>[(8,.pv (.int .i64 (m:Int)))]) (fun m=>[(1,.cells 27 true [.pv (.int .i64 v),.olist 2 9 (SS.map Sch.pv),.olist 3 7 (ES.map Enp.pv),.olist 4 4 (((ws.take m).map kD).map Svc.pv),.pv .nils])]) (fun m=>m<=dm True ws.length 6) (fun m=>6 - m) (0) ([1,2,3]) (fun m=>m=dm True ws.length 6) ?_;intro e0 σ0 n0 h0;simp(maxSteps:=9^7) (disch:=try exact dI) only[push_cast,seval] at h0;obtain⟨rfl,rfl,rfl⟩:=h0;refine⟨?_,?_,?_,?_⟩
   ·simp(maxSteps:=9^7) (disch:=try exact dI) only[push_cast,seval]
   ·omega
   ·intro m hm
    by_cases hgo:m<ws.length/\m<6/\True
    ·obtain⟨g1,g2,_⟩:=hgo
     have g1I:(m:Int)<ws.length:=by omega
     have g2I:(m:Int)<6:=by omega
     obtain⟨x,hx⟩:∃ x,ws[m]? = some x:=⟨_,WT g1⟩
     have hnx:=cz hm ⟨g1,g2,trivial⟩
     have hts:=aE hx
     obtain⟨nm,rq,rp,un⟩:=x
     simp(maxSteps:=9^7) (disch:=try exact dI) only[hx,WH,push_cast,seval]
     refine ag (e6 nm) rfl ?_
     simp(maxSteps:=9^7) (disch:=try exact dI) only[push_cast,seval]
     refine ag (e6 rq) rfl ?_
     simp(maxSteps:=9^7) (disch:=try exact dI) only[push_cast,seval]
     refine ag (e6 rp) rfl ?_
     simp(maxSteps:=9^7) (disch:=try exact dI) only[push_cast,seval]
     exact⟨m+1,aJ (by simp(maxSteps:=9^7) (disch:=try exact dI) only[hts,Xe,kD,WH,push_cast,seval]),hnx,by omega⟩
    ·have hm':=cB hm hgo
     have hexit:¬ m<ws.length\/(m<ws.length/\¬ m<6):=(XF m ws.length).elim (fun h=>.inr ⟨h,fun h6=>hgo ⟨h,h6,trivial⟩⟩) (fun h=>.inl (by omega))
     rcases hexit with g1 | ⟨g1,g2⟩
     ·have g1I:¬ (m:Int)<ws.length:=by omega
      simp(maxSteps:=9^7) (disch:=try exact dI) only[push_cast,seval]
      exact⟨m,hm',qsZ⟩
     ·have g1I:(m:Int)<ws.length:=by omega
      have g2I:¬ (m:Int)<6:=by omega
      simp(maxSteps:=9^7) (disch:=try exact dI) only[push_cast,seval]
      exact⟨m,hm',qsZ⟩
   ·intro m hm s1 hs1;simp(maxSteps:=9^7) (disch:=try exact dI) only[push_cast,seval] at hs1;subst hs1
    have hq:(ws.take m).map kD=(ws.take 6).map kD:=by rw[hm,cy,if_pos trivial]
    rw[hq]
    obtain⟨WS,hWS⟩:∃ WS,WS=(ws.take 6).map kD:=⟨_,rfl⟩
    rw[<- hWS]
    clear hq hm
    simp(maxSteps:=9^7) (disch:=try exact dI) only[push_cast,seval]
    refine dY ([(3,5,64,3)]) (fun m:Nat=>[(10,.pv (.int .i64 (m:Int)))]) (fun m=>[(1,.cells 27 true [.pv (.int .i64 v),.olist 2 9 (SS.map Sch.pv),.olist 3 7 (ES.map Enp.pv),.olist 4 4 (WS.map Svc.pv),.olist 5 3 (((rs.take m).map g5).map Rou.pv)])]) (fun m=>m<=dm True rs.length 6) (fun m=>6 - m) (0) ([1,2,3]) (fun m=>m=dm True rs.length 6) ?_;intro e0 σ0 n0 h0;simp(maxSteps:=9^7) (disch:=try exact dI) only[push_cast,seval] at h0;obtain⟨rfl,rfl,rfl⟩:=h0;refine⟨?_,?_,?_,?_⟩
    ·simp(maxSteps:=9^7) (disch:=try exact dI) only[push_cast,seval]
    ·omega
    ·intro m hm
     by_cases hgo:m<rs.length/\m<6/\True
     ·obtain⟨g1,g2,_⟩:=hgo
      have g1I:(m:Int)<rs.length:=by omega
      have g2I:(m:Int)<6:=by omega
      obtain⟨x,hx⟩:∃ x,rs[m]? = some x:=⟨_,WT g1⟩
      have hnx:=cz hm ⟨g1,g2,trivial⟩
      have hts:=aE hx
      have hxo:=hro x (WV hx)
      obtain⟨nm,fr,st⟩:=x
      rw[Ww] at hxo
      have hcall:=Bp 4 (by omega) st ⟨hxo.2.2.1,hxo.2.2.2⟩
      simp(maxSteps:=9^7) (disch:=try exact dI) only[hx,Wy,push_cast,seval]
      refine ag (e6 nm) rfl ?_
      simp(maxSteps:=9^7) (disch:=try exact dI) only[push_cast,seval]
      refine ag (e6 fr) rfl ?_
      simp(maxSteps:=9^7) (disch:=try exact dI) only[push_cast,seval]
      refine ag hcall rfl ?_
      simp(maxSteps:=9^7) (disch:=try exact dI) only[push_cast,seval]
      exact⟨m+1,aJ (by simp(maxSteps:=9^7) (disch:=try exact dI) only[hts,Xe,g5,Wy,push_cast,seval]),hnx,by omega⟩
     ·have hm':=cB hm hgo
      have hexit:¬ m<rs.length\/(m<rs.length/\¬ m<6):=(XF m rs.length).elim (fun h=>.inr ⟨h,fun h6=>hgo ⟨h,h6,trivial⟩⟩) (fun h=>.inl (by omega))
      rcases hexit with g1 | ⟨g1,g2⟩
      ·have g1I:¬ (m:Int)<rs.length:=by omega
       simp(maxSteps:=9^7) (disch:=try exact dI) only[push_cast,seval]
       exact⟨m,hm',qsZ⟩
      ·have g1I:(m:Int)<rs.length:=by omega
       have g2I:¬ (m:Int)<6:=by omega
       simp(maxSteps:=9^7) (disch:=try exact dI) only[push_cast,seval]
       exact⟨m,hm',qsZ⟩
    ·intro m hm s1 hs1;simp(maxSteps:=9^7) (disch:=try exact dI) only[push_cast,seval] at hs1;subst hs1
     have hq:(rs.take m).map g5=(rs.take 6).map g5:=by rw[hm,cy,if_pos trivial]
     rw[hq]
     obtain⟨RS,hRS⟩:∃ RS,RS=(rs.take 6).map g5:=⟨_,rfl⟩
     rw[<- hRS]
     clear hq hm
     simp(maxSteps:=9^7) (disch:=try exact dI) only[push_cast,seval]
     rw[eU,Wv,<- hSS,<- hES,<- hWS,<- hRS]
     exact .refl _
