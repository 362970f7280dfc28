/- A part. -/
import Derived.Test.YtngchmkoadaecaaGreatDoorClJTy
set_option linter.unusedVariables false
set_option linter.unusedSimpArgs false
set_option maxHeartbeats 16000000
set_option maxRecDepth 100000
open List renaming getElem?_eq_getElem->Uq,mem_of_getElem?->Us,map_append->UH
open Nat renaming lt_or_ge->U6
namespace Go.Proofs.YtngchmkoadaecaaGreatDoor
open Go Go.Ab
def j1:Sch->Sch
 | .mk n v t=>.mk (n.take 70) v (cq 4 t)
def C2:Fmt->Fmt
 | .mk k s w=>.mk k s (w.take 8)
def j2:Enp->Enp
 | .mk n k s v f=>.mk (n.take 70) k (s.take 70) v (C2 f)
def j0:Svc->Svc
 | .mk n r p u=>.mk (n.take 70) (r.take 70) (p.take 70) u
def gH:Rou->Rou
 | .mk n f s=>.mk (n.take 70) (f.take 70) (bC 4 s)
def eE:Prg->Prg
 | .mk v s e w r=>.mk v ((s.take 6).map j1) ((e.take 6).map j2) ((w.take 6).map j0) ((r.take 6).map gH)
theorem ET (p:Prg)(hp:p.ok):ap Tryz.prog aB 5 [p.pv] (eE p).pv:=by
 obtain⟨v,ss,es,ws,rs⟩:=p
 rw[T3] at hp
 obtain⟨_,hsl,hso,hel,heo,hwl,hwo,hrl,hro⟩:=hp
 refine ap.intro Q5.2 (by simp[Q5]) ?_
 simp(maxSteps:=9^7) (disch:=try exact dI) only[Q5,T4,push_cast,seval]
 refine dC ([(3,2,72,9)]) (fun m:Nat=>[(4,.pv (.int .i64 (m:Int)))]) (fun m=>[(1,.cells 27 true [.pv (.int .i64 v),.olist 2 9 (((ss.take m).map j1).map Sch.pv),.pv .nils,.pv .nils,.pv .nils])]) (fun m=>m<=cS True ss.length 6) (fun m=>6 - m) (0) ([1,2,3]) (fun m=>m=cS True ss.length 6) ?_;intro e0 σ0 n0 h0;simp(maxSteps:=9^7) (disch:=try exact dI) only[push_cast,seval] at h0;obtain⟨rfl,rfl,rfl⟩:=h0;refine⟨?_,?_,?_,?_⟩
 ·simp(maxSteps:=9^7) (disch:=try exact dI) only[push_cast,seval]
 ·omega
 ·intro m hm
  by_cases hgo:m<ss.length/\m<6/\True
  ·obtain⟨g1,g2,_⟩:=hgo
   have g1I:(m:Int)<ss.length:=by omega
   have g2I:(m:Int)<6:=by omega
   obtain⟨x,hx⟩:∃ x,ss[m]? = some x:=⟨_,Uq g1⟩
   have hnx:=ce hm ⟨g1,g2,trivial⟩
   have hts:=aC hx
   have hxo:=hso x (Us hx)
   obtain⟨nm,ve,ty⟩:=x
   rw[Ua] at hxo
   have hcall:=pZ 4 (by omega) ty hxo.2.2
   obtain⟨w1,w2,w3,w4,w5,w6,w7⟩:=ty
   rw[Um] at hcall
   obtain⟨cs,hcs,hcl,hco⟩:=Typ.row (cq 4 (.mk w1 w2 w3 w4 w5 w6 w7))
   have hone:cs.all PV.one=true:=List.all_eq_true.2 hco
   rw[hcs] at hcall
   obtain⟨u1,u2,u3,u4,u5,u6,u7,rfl⟩:=BK hcl
   simp only[List.all_cons,List.all_nil,Bool.and_true,Bool.and_eq_true] at hone
   obtain⟨o1,o2,o3,o4,o5,o6,o7⟩:=hone
   simp(maxSteps:=9^7) (disch:=try exact dI) only[hx,Ub,Um,push_cast,seval]
   refine au (eK nm) rfl ?_
   simp(maxSteps:=9^7) (disch:=try exact dI) only[push_cast,seval]
   refine au hcall rfl ?_
   simp(maxSteps:=9^7) (disch:=try exact dI) only[o1,o2,o3,o4,o5,o6,o7,push_cast,seval]
   exact⟨m+1,aN (by simp(maxSteps:=9^7) (disch:=try exact dI) only[hts,UH,j1,Ub,hcs,push_cast,seval]),hnx,by omega⟩
  ·have hm':=cf hm hgo
   have hexit:¬ m<ss.length\/(m<ss.length/\¬ m<6):=(U6 m ss.length).elim (fun h=>.inr ⟨h,fun h6=>hgo ⟨h,h6,trivial⟩⟩) (fun h=>.inl (by omega))
   rcases hexit with g1 | ⟨g1,g2⟩
   ·have g1I:¬ (m:Int)<ss.length:=by omega
    simp(maxSteps:=9^7) (disch:=try exact dI) only[push_cast,seval]
    exact⟨m,hm',qsZ⟩
   ·have g1I:(m:Int)<ss.length:=by omega
    have g2I:¬ (m:Int)<6:=by omega
    simp(maxSteps:=9^7) (disch:=try exact dI) only[push_cast,seval]
    exact⟨m,hm',qsZ⟩
 ·intro m hm s1 hs1;simp(maxSteps:=9^7) (disch:=try exact dI) only[push_cast,seval] at hs1;subst hs1
  have hq:(ss.take m).map j1=(ss.take 6).map j1:=by rw[hm,cb,if_pos trivial]
  rw[hq]
  obtain⟨SS,hSS⟩:∃ SS,SS=(ss.take 6).map j1:=⟨_,rfl⟩
  rw[<- hSS]
  clear hq hm
  simp(maxSteps:=9^7) (disch:=try exact dI) only[push_cast,seval]
  refine dC ([(3,3,39,7)]) (fun m:Nat=>[(6,.pv (.int .i64 (m:Int)))]) (fun m=>[(1,.cells 27 true [.pv (.int .i64 v),.olist 2 9 (SS.map Sch.pv),.olist 3 7 (((es.take m).map j2).map Enp.pv),.pv .nils,.pv .nils])]) (fun m=>m<=cS True es.length 6) (fun m=>6 - m) (0) ([1,2,3]) (fun m=>m=cS True es.length 6) ?_;intro e0 σ0 n0 h0;simp(maxSteps:=9^7) (disch:=try exact dI) only[push_cast,seval] at h0;obtain⟨rfl,rfl,rfl⟩:=h0;refine⟨?_,?_,?_,?_⟩
  ·simp(maxSteps:=9^7) (disch:=try exact dI) only[push_cast,seval]
  ·omega
  ·intro m hm
   by_cases hgo:m<es.length/\m<6/\True
   ·obtain⟨g1,g2,_⟩:=hgo
    have g1I:(m:Int)<es.length:=by omega
    have g2I:(m:Int)<6:=by omega
    obtain⟨x,hx⟩:∃ x,es[m]? = some x:=⟨_,Uq g1⟩
    have hnx:=ce hm ⟨g1,g2,trivial⟩
    have hts:=aC hx
    obtain⟨nm,kk,sc,ve,fo⟩:=x
    obtain⟨f1,f2,f3⟩:=fo
    simp(maxSteps:=9^7) (disch:=try exact dI) only[hx,TU,T1,push_cast,seval]
    refine au (eK nm) rfl ?_
    simp(maxSteps:=9^7) (disch:=try exact dI) only[push_cast,seval]
    refine au (eK sc) rfl ?_
    simp(maxSteps:=9^7) (disch:=try exact dI) only[push_cast,seval]
    exact⟨m+1,aN (by simp(maxSteps:=9^7) (disch:=try exact dI) only[hts,UH,j2,C2,TU,T1,push_cast,seval]),hnx,by omega⟩
   ·have hm':=cf hm hgo
    have hexit:¬ m<es.length\/(m<es.length/\¬ m<6):=(U6 m es.length).elim (fun h=>.inr ⟨h,fun h6=>hgo ⟨h,h6,trivial⟩⟩) (fun h=>.inl (by omega))
    rcases hexit with g1 | ⟨g1,g2⟩
    ·have g1I:¬ (m:Int)<es.length:=by omega
     simp(maxSteps:=9^7) (disch:=try exact dI) only[push_cast,seval]
     exact⟨m,hm',qsZ⟩
    ·have g1I:(m:Int)<es.length:=by omega
     have g2I:¬ (m:Int)<6:=by omega
     simp(maxSteps:=9^7) (disch:=try exact dI) only[push_cast,seval]
     exact⟨m,hm',qsZ⟩
  ·intro m hm s1 hs1;simp(maxSteps:=9^7) (disch:=try exact dI) only[push_cast,seval] at hs1;subst hs1
   have hq:(es.take m).map j2=(es.take 6).map j2:=by rw[hm,cb,if_pos trivial]
   rw[hq]
   obtain⟨ES,hES⟩:∃ ES,ES=(es.take 6).map j2:=⟨_,rfl⟩
   rw[<- hES]
   clear hq hm
   simp(maxSteps:=9^7) (disch:=try exact dI) only[push_cast,seval]
   refine dC ([(3,4,41,4)]) (fun m:Nat=>[(8,.pv (.int .i64 (m:Int)))]) (fun m=>[(1,.cells 27 true [.pv (.int .i64 v),.olist 2 9 (SS.map Sch.pv),.olist 3 7 (ES.map Enp.pv),.olist 4 4 (((ws.take m).map j0).map Svc.pv),.pv .nils])]) (fun m=>m<=cS True ws.length 6) (fun m=>6 - m) (0) ([1,2,3]) (fun m=>m=cS True ws.length 6) ?_;intro e0 σ0 n0 h0;simp(maxSteps:=9^7) (disch:=try exact dI) only[push_cast,seval] at h0;obtain⟨rfl,rfl,rfl⟩:=h0;refine⟨?_,?_,?_,?_⟩
   ·simp(maxSteps:=9^7) (disch:=try exact dI) only[push_cast,seval]
   ·omega
   ·intro m hm
    by_cases hgo:m<ws.length/\m<6/\True
    ·obtain⟨g1,g2,_⟩:=hgo
     have g1I:(m:Int)<ws.length:=by omega
     have g2I:(m:Int)<6:=by omega
     obtain⟨x,hx⟩:∃ x,ws[m]? = some x:=⟨_,Uq g1⟩
     have hnx:=ce hm ⟨g1,g2,trivial⟩
     have hts:=aC hx
     obtain⟨nm,rq,rp,un⟩:=x
     simp(maxSteps:=9^7) (disch:=try exact dI) only[hx,Uf,push_cast,seval]
     refine au (eK nm) rfl ?_
     simp(maxSteps:=9^7) (disch:=try exact dI) only[push_cast,seval]
     refine au (eK rq) rfl ?_
     simp(maxSteps:=9^7) (disch:=try exact dI) only[push_cast,seval]
     refine au (eK rp) rfl ?_
     simp(maxSteps:=9^7) (disch:=try exact dI) only[push_cast,seval]
     exact⟨m+1,aN (by simp(maxSteps:=9^7) (disch:=try exact dI) only[hts,UH,j0,Uf,push_cast,seval]),hnx,by omega⟩
    ·have hm':=cf hm hgo
     have hexit:¬ m<ws.length\/(m<ws.length/\¬ m<6):=(U6 m ws.length).elim (fun h=>.inr ⟨h,fun h6=>hgo ⟨h,h6,trivial⟩⟩) (fun h=>.inl (by omega))
     rcases hexit with g1 | ⟨g1,g2⟩
     ·have g1I:¬ (m:Int)<ws.length:=by omega
      simp(maxSteps:=9^7) (disch:=try exact dI) only[push_cast,seval]
      exact⟨m,hm',qsZ⟩
     ·have g1I:(m:Int)<ws.length:=by omega
      have g2I:¬ (m:Int)<6:=by omega
      simp(maxSteps:=9^7) (disch:=try exact dI) only[push_cast,seval]
      exact⟨m,hm',qsZ⟩
   ·intro m hm s1 hs1;simp(maxSteps:=9^7) (disch:=try exact dI) only[push_cast,seval] at hs1;subst hs1
    have hq:(ws.take m).map j0=(ws.take 6).map j0:=by rw[hm,cb,if_pos trivial]
    rw[hq]
    obtain⟨WS,hWS⟩:∃ WS,WS=(ws.take 6).map j0:=⟨_,rfl⟩
    rw[<- hWS]
    clear hq hm
    simp(maxSteps:=9^7) (disch:=try exact dI) only[push_cast,seval]
    refine dC ([(3,5,64,3)]) (fun m:Nat=>[(10,.pv (.int .i64 (m:Int)))]) (fun m=>[(1,.cells 27 true [.pv (.int .i64 v),.olist 2 9 (SS.map Sch.pv),.olist 3 7 (ES.map Enp.pv),.olist 4 4 (WS.map Svc.pv),.olist 5 3 (((rs.take m).map gH).map Rou.pv)])]) (fun m=>m<=cS True rs.length 6) (fun m=>6 - m) (0) ([1,2,3]) (fun m=>m=cS True rs.length 6) ?_;intro e0 σ0 n0 h0;simp(maxSteps:=9^7) (disch:=try exact dI) only[push_cast,seval] at h0;obtain⟨rfl,rfl,rfl⟩:=h0;refine⟨?_,?_,?_,?_⟩
    ·simp(maxSteps:=9^7) (disch:=try exact dI) only[push_cast,seval]
    ·omega
    ·intro m hm
     by_cases hgo:m<rs.length/\m<6/\True
     ·obtain⟨g1,g2,_⟩:=hgo
      have g1I:(m:Int)<rs.length:=by omega
      have g2I:(m:Int)<6:=by omega
      obtain⟨x,hx⟩:∃ x,rs[m]? = some x:=⟨_,Uq g1⟩
      have hnx:=ce hm ⟨g1,g2,trivial⟩
      have hts:=aC hx
      have hxo:=hro x (Us hx)
      obtain⟨nm,fr,st⟩:=x
      rw[T5] at hxo
      have hcall:=zh 4 (by omega) st ⟨hxo.2.2.1,hxo.2.2.2⟩
      simp(maxSteps:=9^7) (disch:=try exact dI) only[hx,T6,push_cast,seval]
      refine au (eK nm) rfl ?_
      simp(maxSteps:=9^7) (disch:=try exact dI) only[push_cast,seval]
      refine au (eK fr) rfl ?_
      simp(maxSteps:=9^7) (disch:=try exact dI) only[push_cast,seval]
      refine au hcall rfl ?_
      simp(maxSteps:=9^7) (disch:=try exact dI) only[push_cast,seval]
      exact⟨m+1,aN (by simp(maxSteps:=9^7) (disch:=try exact dI) only[hts,UH,gH,T6,push_cast,seval]),hnx,by omega⟩
     ·have hm':=cf hm hgo
      have hexit:¬ m<rs.length\/(m<rs.length/\¬ m<6):=(U6 m rs.length).elim (fun h=>.inr ⟨h,fun h6=>hgo ⟨h,h6,trivial⟩⟩) (fun h=>.inl (by omega))
      rcases hexit with g1 | ⟨g1,g2⟩
      ·have g1I:¬ (m:Int)<rs.length:=by omega
       simp(maxSteps:=9^7) (disch:=try exact dI) only[push_cast,seval]
       exact⟨m,hm',qsZ⟩
      ·have g1I:(m:Int)<rs.length:=by omega
       have g2I:¬ (m:Int)<6:=by omega
       simp(maxSteps:=9^7) (disch:=try exact dI) only[push_cast,seval]
       exact⟨m,hm',qsZ⟩
    ·intro m hm s1 hs1;simp(maxSteps:=9^7) (disch:=try exact dI) only[push_cast,seval] at hs1;subst hs1
     have hq:(rs.take m).map gH=(rs.take 6).map gH:=by rw[hm,cb,if_pos trivial]
     rw[hq]
     obtain⟨RS,hRS⟩:∃ RS,RS=(rs.take 6).map gH:=⟨_,rfl⟩
     rw[<- hRS]
     clear hq hm
     simp(maxSteps:=9^7) (disch:=try exact dI) only[push_cast,seval]
     rw[eE,T4,<- hSS,<- hES,<- hWS,<- hRS]
     exact .refl _
