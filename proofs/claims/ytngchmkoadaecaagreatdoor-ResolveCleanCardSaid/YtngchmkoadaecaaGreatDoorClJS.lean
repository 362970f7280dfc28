/- A part. -/
import Derived.Test.YtngchmkoadaecaaGreatDoorClJD
set_option linter.unusedVariables false
set_option linter.unusedSimpArgs false
set_option maxRecDepth 100000
open List renaming getElem?_eq_some_iff->Ur,length_map->U0,getElem?_eq_getElem->Uq,mem_of_getElem?->Us,take->Vw,map_append->UH,take_of_length_le->Ux,mem_of_mem_take->Vf,mem_map->UO
open Int renaming add_sub_cancel->U7
namespace Go.Proofs.YtngchmkoadaecaaGreatDoor
open Go Go.Ab
theorem eK (s:List UInt8):ap Tryz.prog aB 17 [.str s] (.str (s.take 70)):=by
 refine ap.intro Q17.2 (by simp[Q17]) ?_
 simp(maxSteps:=9^7) (disch:=try exact dI) only[Q17,push_cast,seval]
def xU:Cal->Cal
 | .mk s m=>.mk (s.take 70) m
def Mn (rec:List Stp->List Stp):Bra->Bra
 | .mk w l=>.mk (w.take 2) (rec l)
def dx (rec:List Stp->List Stp)(on:Bool):Stp->Stp
 | .mk a b c d e f g h i j k=>.mk (a.take 70) b c d e (f.take 70) (g.take 70) (h.take 3) (i.take 4) ((j.take 18).map xU) (if on then (k.take 4).map (Mn rec) else [])
def bC:Nat->List Stp->List Stp
 | 0,l=>(l.take 8).map (dx id false)
 | n+1,l=>(l.take 8).map (dx (bC n) true)
def nq:Nat->Stp->Stp
 | 0=>dx id false
 | n+1=>dx (bC n) true
theorem jl:∀ n l,bC n l=(l.take 8).map (nq n)
 | 0,l=>rfl
 | n+1,l=>rfl
def sF (q:Nat)(l:List Cal):List Cal:=(l.take q).map xU++l.drop q
theorem Bv (l:List Cal):sF 0 l=l:=by simp[sF]
theorem Gt (q:Nat)(l:List Cal):(sF q l).length=l.length:=by simp[sF];omega
theorem sE {q:Nat}{l:List Cal}{c:Cal}(h:l[q]? = some c):(sF q l)[q]? = some c:=by
 have hq:=(Ur.1 h).1
 rw[sF,List.getElem?_append_right (by simp;omega)]
 simp only[U0,List.length_take,List.getElem?_drop]
 rw[show q+(q - min q l.length)=q by omega];exact h
theorem Bw {q:Nat}{l:List Cal}{c:Cal}(h:l[q]? = some c):sF (q+1) l=(sF q l).set q (xU c):=by
 have hq:=(Ur.1 h).1
 have hc:=(Ur.1 h).2
 have hl:((l.take q).map xU).length=q:=by simp;omega
 rw[sF,sF,List.set_append_right _ _ (by omega),hl,Nat.sub_self,List.take_succ_eq_append_getElem hq,List.drop_eq_getElem_cons hq,hc]
 simp
theorem Gu (l:List Cal):sF l.length l=l.map xU:=by simp[sF]
def okL (l:List Stp):Prop:=l.length*176<=140737488351232/\∀ x∈l,x.ok
theorem EU (n:Nat)(hn:n<=1000)(ih:∀ m l,m<n->okL l->ap Tryz.prog aB 19 [.list (l.map Stp.pv),.int .i64 m] (.list ((bC m l).map Stp.pv)))
  (l:List Stp) (hl:okL l):ap Tryz.prog aB 19 [.list (l.map Stp.pv),.int .i64 n] (.list ((bC n l).map Stp.pv)):=by
 obtain⟨hm,hl⟩:=hl
 have hm':l.length<=9223372036854775807:=by omega
 refine ap.intro QV (by simp[F19]) ?_
 simp(maxSteps:=9^7) (disch:=try exact dI) only[F19,push_cast,seval]
 refine aw ([(5,0,51,11)]) (fun i:Nat=>[(5,.olist 0 11 (((l.take i).map (nq n)).map Stp.pv)),(6,.pv (.int .i64 (i:Int)))]) (fun _=>[]) (fun i=>i<=l.length/\i<=8) (fun i=>8 - i) (0) ?_;intro e0 σ0 n0 h0;simp(maxSteps:=9^7) (disch:=try exact dI) only[push_cast,seval] at h0;obtain⟨rfl,rfl,rfl⟩:=h0;refine⟨?_,?_,?_⟩
 ·simp(maxSteps:=9^7) (disch:=try exact dI) only[push_cast,seval]
 ·omega
 intro i hi
 obtain⟨hi1,hi2⟩:=hi
 by_cases hlt:i<l.length
 ·by_cases hlt8:i<8
  ·have hltI:(i:Int)<l.length:=by omega
   have hltI8:(i:Int)<8:=by omega
   obtain⟨s,hs⟩:∃ s,l[i]? = some s:=⟨l[i],Uq hlt⟩
   have hok:=hl s (Us hs)
   obtain⟨a,b,c,d,e,f,g,h,ru,j,k⟩:=s
   rw[Uc] at hok
   obtain⟨_,_,_,_,_,_,_,_,_,_,_,hjm,_,hkm,hkk⟩:=hok
   simp(maxSteps:=9^7) (disch:=try exact dI) only[hs,Stp.cells_len,Stp.isAgg,Ud,push_cast,seval]
   refine au (eK a) rfl ?_
   simp(maxSteps:=9^7) (disch:=try exact dI) only[push_cast,seval]
   refine au (eK f) rfl ?_
   simp(maxSteps:=9^7) (disch:=try exact dI) only[push_cast,seval]
   refine au (eK g) rfl ?_
   have h18:(j.take 18).length<=18:=by simp;omega
   simp(maxSteps:=9^7) (disch:=try exact dI) only[Cal.cells_len,push_cast,seval]
   refine aw ([]) (fun q:Nat=>[(8,.pv (.int .i64 (q:Int)))]) (fun q=>[(2,.cells 61 false (cn ((sF q (j.take 18)).map Cal.pv)))]) (fun q=>q<=(j.take 18).length) (fun q=>(j.take 18).length - q) (0) ?_;intro e0 σ0 n0 h0;simp(maxSteps:=9^7) (disch:=try exact dI) only[push_cast,seval] at h0;obtain⟨rfl,rfl,rfl⟩:=h0;refine⟨?_,?_,?_⟩
   ·simp(maxSteps:=9^7) (disch:=try exact dI) only[Bv,push_cast,seval]
   ·omega
   ·intro q hq
    by_cases hql:q<(j.take 18).length
    ·obtain⟨cc,hcc⟩:∃ cc,(j.take 18)[q]? = some cc:=⟨_,Uq hql⟩
     have hqlI:(q:Int)<(j.take 18).length:=by omega
     have hlen:=dA Cal.cells_len (sF q (j.take 18))
     rw[Gt] at hlen
     have hget:=cH (o:=0) Cal.cells_len (sE hcc) (by omega)
     obtain⟨cs,cm⟩:=cc
     have hset:=oy (o:=0) (y:=xU (.mk cs cm)) (p:=.str (cs.take 70)) Cal.cells_len (sE hcc) (by omega) (by rw[xU,TS,TS];rfl)
     rw[<- Bw hcc] at hset
     simp only[Nat.add_zero,TS,ae,Tn,nP] at hget
     simp only[Nat.add_zero,List.append_assoc,List.cons_append,List.nil_append] at hset
     simp(maxSteps:=9^7) (disch:=try exact dI) only[hget,hlen,hset,push_cast,seval]
     refine au (eK cs) rfl ?_
     simp(maxSteps:=9^7) (disch:=try exact dI) only[hlen,hset,push_cast,seval]
     exact⟨q+1,aN qsZ,by omega,by omega⟩
    ·have hqe:q=(j.take 18).length:=by omega
     subst hqe
     simp(maxSteps:=9^7) (disch:=try exact dI) only[Gu,push_cast,seval]
     have hkm':k.length<=9223372036854775807:=by omega
     let st:=fun m:Nat=>[(1,Blk.cells 51 true [AV.pv (PV.str (Vw 70 a)),AV.pv (PV.int IntKind.i64 b),AV.pv (PV.int IntKind.i64 c),
        AV.pv (PV.int IntKind.i64 d),AV.pv (PV.int IntKind.i64 e),AV.pv (PV.str (Vw 70 f)),
        AV.pv (PV.str (Vw 70 g)),AV.pv (PV.list ((Vw 3 h).map Exp.pv)),AV.pv (PV.list ((Vw 4 ru).map Rul.pv)),
        AV.row 2 2 0 (Vw 18 j).length,.olist 3 2 (((k.take m).map (Mn (bC (n - 1)))).map Bra.pv)])]
     refine aw ([(7,11,111,2)]) (fun m:Nat=>[(9,.pv (.int .i64 (m:Int)))]) (fun m=>st m) (fun m=>m<=k.length/\m<=4/\(n=0->m=0)) (fun m=>4 - m) (0) ?_;intro e0 σ0 n0 h0;simp(maxSteps:=9^7) (disch:=try exact dI) only[push_cast,seval] at h0;obtain⟨rfl,rfl,rfl⟩:=h0;refine⟨?_,?_,?_⟩
     ·simp(maxSteps:=9^7) (disch:=try exact dI) only[st,push_cast,seval]
     ·omega
     ·rintro m ⟨hm1,hm2,hm3⟩
      simp only[st]
      by_cases hgo:m<k.length/\m<4/\0<n
      ·obtain⟨h1,h2,h3⟩:=hgo
       have h1I:(m:Int)<k.length:=by omega
       have h2I:(m:Int)<4:=by omega
       have h3I:(0:Int)<n:=by omega
       obtain⟨bb,hbb⟩:∃ bb,k[m]? = some bb:=⟨_,Uq h1⟩
       have hbok:=hkk bb (Us hbb)
       obtain⟨w,ls⟩:=bb
       rw[TP] at hbok
       obtain⟨n',rfl⟩:∃ n',n=n'+1:=⟨n - 1,by omega⟩
       have hts:=aC hbb
       have hcall:=ih n' ls (by omega) ⟨hbok.2.2.1,hbok.2.2.2⟩
       simp(maxSteps:=9^7) (disch:=try exact dI) only[hs,Stp.cells_len,Ud,hbb,Bra.cells_len,Bra.isAgg,TQ,Nat.add_sub_cancel,U7,push_cast,seval]
       refine au hcall rfl ?_
       simp(maxSteps:=9^7) (disch:=try exact dI) only[TQ,push_cast,seval]
       exact⟨m+1,aN (by simp(maxSteps:=9^7) (disch:=try exact dI) only[hts,UH,TQ,Mn,push_cast,seval]),⟨by omega,by omega,fun h=>h.elim⟩,by omega⟩
      ·have hexit:¬ m<k.length\/(m<k.length/\¬ m<4)\/(m<k.length/\m<4/\¬ 0<n):=by omega
       have hfin:(nq n (.mk a b c d e f g h ru j k)).pv = .agg [.str (a.take 70),.int .i64 b,.int .i64 c,.int .i64 d,.int .i64 e,.str (f.take 70),.str (g.take 70),.list ((h.take 3).map Exp.pv),.list ((ru.take 4).map Rul.pv),.list (((j.take 18).map xU).map Cal.pv),.list (((k.take m).map (Mn (bC (n - 1)))).map Bra.pv)]:=by
        cases n with
        | zero=>
          obtain rfl:=hm3 rfl
          simp only[nq,dx,Ud];simp
        | succ n=>
          have:k.take m=k.take 4:=by
           rcases hexit with h | h | h
           ·rw[Ux (by omega),Ux (by omega)]
           ·rw[show m=4 by omega]
           ·omega
          simp only[nq,dx,Ud,this,Nat.add_sub_cancel];simp
       have hts:=aC hs
       have hfz:=Hn Cal.row (by omega) ((j.take 18).map xU) (n:=(j.take 18).length) (r:=2) (T:=61) (b:=false) (by simp)
       have hend:∀ x:Nat,x=i+1->(x<=l.length/\x<=8)/\8 - x<8 - i:=fun x hx=>by omega
       rcases hexit with h1 | ⟨h1,h2⟩ | ⟨h1,h2,h3⟩
       ·have h1I:¬ (m:Int)<k.length:=by omega
        simp(maxSteps:=9^7) (disch:=try exact dI) only[hs,Stp.cells_len,Ud,hfz,push_cast,seval]
        exact⟨i+1,aN (by simp(maxSteps:=9^7) (disch:=try exact dI) only[hts,UH,hfin,push_cast,seval]),hend _ rfl⟩
       ·have h1I:(m:Int)<k.length:=by omega
        have h2I:¬ (m:Int)<4:=by omega
        simp(maxSteps:=9^7) (disch:=try exact dI) only[hs,Stp.cells_len,Ud,hfz,push_cast,seval]
        exact⟨i+1,aN (by simp(maxSteps:=9^7) (disch:=try exact dI) only[hts,UH,hfin,push_cast,seval]),hend _ rfl⟩
       ·have h1I:(m:Int)<k.length:=by omega
        have h2I:(m:Int)<4:=by omega
        have h3I:¬ (0:Int)<n:=by omega
        simp(maxSteps:=9^7) (disch:=try exact dI) only[hs,Stp.cells_len,Ud,hfz,push_cast,seval]
        exact⟨i+1,aN (by simp(maxSteps:=9^7) (disch:=try exact dI) only[hts,UH,hfin,push_cast,seval]),hend _ rfl⟩
  ·have h8:i=8:=by omega
   subst h8
   have hltI:((8:Nat):Int)<l.length:=by omega
   simp(maxSteps:=9^7) (disch:=try exact dI) only[push_cast,seval]
   rw[jl]
   exact .refl _
 ·have hltI:¬ (i:Int)<l.length:=by omega
  have he:l.take i=l.take 8:=by rw[Ux (by omega),Ux (by omega)]
  simp(maxSteps:=9^7) (disch:=try exact dI) only[he,push_cast,seval]
  rw[jl]
  exact .refl _
theorem zh:∀ (n:Nat) (hn:n<=1000) (l:List Stp),okL l->ap Tryz.prog aB 19 [.list (l.map Stp.pv),.int .i64 n] (.list ((bC n l).map Stp.pv)):=by
 intro n
 induction n using Nat.strongRecOn with
 | _ n ih=>exact fun hn l hl=>EU n hn (fun m l hmn=>ih m hmn (by omega) l) l hl
theorem aO {α:Type}{l:List α}{n m:Nat}(h:l.length<=m):(l.take n).length<=m:=by simp;omega
theorem aH {α:Type}{l:List α}{n m b:Nat}(h:l.length*b<=m):(l.take n).length*b<=m:=Nat.le_trans (Nat.mul_le_mul_right _ (by simp;omega)) h
theorem bm {α:Type}{l:List α}{n:Nat}{Q:α->Prop}(h:∀ x∈l,Q x):∀ x∈l.take n,Q x:=fun x hx=>h x (Vf hx)
theorem fm (n:Nat)(l:List Stp):(bC n l).length<=8:=by rw[jl];simp;omega
theorem nr {rec:List Stp->List Stp}{on:Bool}(hr:on=true->∀ l,okL l->okL (rec l))(s:Stp)(h:s.ok):(dx rec on s).ok:=by
 obtain⟨a,b,c,d,e,f,g,hh,ru,j,k⟩:=s
 rw[dx,Uc]
 rw[Uc] at h
 obtain⟨h1,h2,h3,h4,h5,h6,h7,h8,h9,h10,h11,h12,h13,h14,h15⟩:=h
 refine⟨(by first | exact aO h1 | exact aH h1),h2,h3,h4,h5,(by first | exact aO h6 | exact aH h6),(by first | exact aO h7 | exact aH h7),(by first | exact aO h8 | exact aH h8),bm h9,(by first | exact aO h10 | exact aH h10),bm h11,?_,?_,?_,?_⟩
 ·rw[U0];exact (by first | exact aO h12 | exact aH h12)
 ·intro x hx
  obtain⟨⟨y1,y2⟩,hy,rfl⟩:=UO.1 hx
  have:=bm h13 _ hy
  rw[TR] at this
  rw[xU,TR]
  exact⟨(by first | exact aO this.1 | exact aH this.1),this.2⟩
 ·split
  ·rw[U0];exact (by first | exact aO h14 | exact aH h14)
  ·simp
 ·split
  ·rename_i hon
   intro x hx
   obtain⟨⟨y1,y2⟩,hy,rfl⟩:=UO.1 hx
   have:=bm h15 _ hy
   rw[TP] at this
   rw[Mn,TP]
   have hq:=hr hon y2 ⟨this.2.2.1,this.2.2.2⟩
   exact⟨(by first | exact aO this.1 | exact aH this.1),bm this.2.1,hq.1,hq.2⟩
  ·simp
theorem jk:∀ (n:Nat) (l:List Stp),okL l->okL (bC n l)
 | 0,l,h=>by
   refine⟨by have:=fm 0 l;omega,fun x hx=>?_⟩
   rw[bC] at hx
   obtain⟨y,hy,rfl⟩:=UO.1 hx
   exact nr (fun h=>by cases h) y (h.2 y (Vf hy))
 | n+1,l,h=>by
   refine⟨by have:=fm (n+1) l;omega,fun x hx=>?_⟩
   rw[bC] at hx
   obtain⟨y,hy,rfl⟩:=UO.1 hx
   exact nr (fun _ l hl=>jk n l hl) y (h.2 y (Vf hy))
def jm (rec:Val->Val):Fld->Fld
 | .mk n v=>.mk (n.take 40) (rec v)
def gS (rec:Val->Val)(on:Bool):Val->Val
 | .mk k i s t l f=>.mk k i s (t.take 40) (if on then (l.take 6).map rec else []) (if on then (f.take 6).map (jm rec) else [])
def bU:Nat->Val->Val
 | 0=>gS id false
 | n+1=>gS (bU n) (decide (0<n))
def xM (on:Prop)[Decidable on](len:Nat):Nat:=if on then min len 6 else 0
theorem zj (n:Nat)(hn:n<=1000)(ih:∀ m v,m<n->v.ok->ap Tryz.prog aB 46 [v.pv,.int .i64 m] (bU m v).pv)(v:Val)(hv:v.ok):ap Tryz.prog aB 46 [v.pv,.int .i64 n] (bU n v).pv:=by
 obtain⟨k,i,s,t,l,f⟩:=v
 rw[Un] at hv
 obtain⟨h1,h2,h3,h4,h5,h7,h6,h8⟩:=hv
 refine ap.intro Q46.2 (by simp[Q46]) ?_
 simp(maxSteps:=9^7) (disch:=try exact dI) only[Q46,Uo,push_cast,seval]
 refine dC ([(5,0,108,6)]) (fun m:Nat=>[(5,.olist 2 6 (((l.take m).map (bU (n - 1))).map Val.pv)),(7,.pv (.int .i64 (m:Int)))]) (fun _=>[]) (fun m=>m<=xM (1<n) l.length) (fun m=>6 - m) (0) ([1,2,4,5,6]) (fun m=>m=xM (1<n) l.length) ?_;intro e0 σ0 n0 h0;simp(maxSteps:=9^7) (disch:=try exact dI) only[push_cast,seval] at h0;obtain⟨rfl,rfl,rfl⟩:=h0;refine⟨?_,?_,?_,?_⟩
 ·simp(maxSteps:=9^7) (disch:=try exact dI) only[push_cast,seval]
 ·omega
 ·intro m hm
  by_cases hgo:m<l.length/\m<6/\1<n
  ·obtain⟨g1,g2,g3⟩:=hgo
   have g1I:(m:Int)<l.length:=by omega
   have g2I:(m:Int)<6:=by omega
   have g3I:(1:Int)<n:=by omega
   obtain⟨x,hx⟩:∃ x,l[m]? = some x:=⟨_,Uq g1⟩
   obtain⟨n',rfl⟩:∃ n',n=n'+1:=⟨n - 1,by omega⟩
   have hts:=aC hx
   simp(maxSteps:=9^7) (disch:=try exact dI) only[hx,Val.cells_len,Val.isAgg,Nat.add_sub_cancel,U7,push_cast,seval]
   refine ab.pure (ih n' x (by omega) (h7 x (Us hx))) rfl ?_
   simp(maxSteps:=9^7) (disch:=try exact dI) only[Val.cells_len,Val.ones,push_cast,seval]
   exact⟨m+1,aN (by simp(maxSteps:=9^7) (disch:=try exact dI) only[hts,UH,push_cast,seval]),by simp only[xM,if_pos g3] at hm ⊢;omega,by omega⟩
  ·have hm':m=xM (1<n) l.length:=by unfold xM at hm ⊢;split at hm<;>rename_i h1<;>(try rw[if_pos h1])<;>(try rw[if_neg h1])<;>omega
   have hexit:¬ m<l.length\/(m<l.length/\¬ m<6)\/(m<l.length/\m<6/\¬ 1<n):=by omega
   rcases hexit with g1 | ⟨g1,g2⟩ | ⟨g1,g2,g3⟩
   ·have g1I:¬ (m:Int)<l.length:=by omega
    simp(maxSteps:=9^7) (disch:=try exact dI) only[push_cast,seval]
    exact⟨m,hm',qsZ⟩
   ·have g1I:(m:Int)<l.length:=by omega
    have g2I:¬ (m:Int)<6:=by omega
    simp(maxSteps:=9^7) (disch:=try exact dI) only[push_cast,seval]
    exact⟨m,hm',qsZ⟩
   ·have g1I:(m:Int)<l.length:=by omega
    have g2I:(m:Int)<6:=by omega
    have g3I:¬ (1:Int)<n:=by omega
    simp(maxSteps:=9^7) (disch:=try exact dI) only[push_cast,seval]
    exact⟨m,hm',qsZ⟩
 ·intro m hm s1 hs1;simp(maxSteps:=9^7) (disch:=try exact dI) only[push_cast,seval] at hs1;subst hs1
  have hl:(l.take m).map (bU (n - 1))=if decide (1<n)=true then (l.take 6).map (bU (n - 1)) else []:=by
   subst hm;unfold xM
   by_cases h:1<n
   ·simp only[h,decide_true,if_true];rw[Nat.min_comm,<- List.take_take,Ux (Nat.le_refl _)]
   ·simp[h]
  obtain⟨LL,hLL⟩:∃ LL,LL=(l.take m).map (bU (n - 1)):=⟨_,rfl⟩
  rw[<- hLL] at hl ⊢
  clear hLL
  simp(maxSteps:=9^7) (disch:=try exact dI) only[push_cast,seval]
  refine dC ([(6,0,138,7)]) (fun m:Nat=>[(6,.olist 3 7 (((f.take m).map (jm (bU (n - 1)))).map Fld.pv)),(8,.pv (.int .i64 (m:Int)))]) (fun _=>[]) (fun m=>m<=xM (1<n) f.length) (fun m=>6 - m) (0) ([2,4,5,6]) (fun m=>m=xM (1<n) f.length) ?_;intro e0 σ0 n0 h0;simp(maxSteps:=9^7) (disch:=try exact dI) only[push_cast,seval] at h0;obtain⟨rfl,rfl,rfl⟩:=h0;refine⟨?_,?_,?_,?_⟩
  ·simp(maxSteps:=9^7) (disch:=try exact dI) only[push_cast,seval]
  ·omega
  ·intro m hm
   by_cases hgo:m<f.length/\m<6/\1<n
   ·obtain⟨g1,g2,g3⟩:=hgo
    have g1I:(m:Int)<f.length:=by omega
    have g2I:(m:Int)<6:=by omega
    have g3I:(1:Int)<n:=by omega
    obtain⟨x,hx⟩:∃ x,f[m]? = some x:=⟨_,Uq g1⟩
    have hxo:=h8 x (Us hx)
    obtain⟨nm,vv⟩:=x
    rw[TX] at hxo
    obtain⟨n',rfl⟩:∃ n',n=n'+1:=⟨n - 1,by omega⟩
    have hcall:=ih n' vv (by omega) hxo.2
    have hts:=aC hx
    obtain⟨w1,w2,w3,w4,w5,w6⟩:=vv
    rw[Uo] at hcall
    have hlen:=Fld.cells_len (.mk nm (.mk w1 w2 w3 w4 w5 w6))
    rw[TY,Uo] at hlen
    obtain⟨cs,hcs,hcl,hco⟩:=Val.row (bU n' (.mk w1 w2 w3 w4 w5 w6))
    have hone:cs.all PV.one=true:=List.all_eq_true.2 hco
    rw[hcs] at hcall
    obtain⟨u1,u2,u3,u4,u5,u6,rfl⟩:=LM hcl
    simp only[List.all_cons,List.all_nil,Bool.and_true,Bool.and_eq_true] at hone
    obtain⟨o1,o2,o3,o4,o5,o6⟩:=hone
    simp(maxSteps:=9^7) (disch:=try exact dI) only[hx,TY,Uo,Nat.add_sub_cancel,U7,push_cast,seval]
    refine au hcall rfl ?_
    simp(maxSteps:=9^7) (disch:=try exact dI) only[o1,o2,o3,o4,o5,o6,push_cast,seval]
    exact⟨m+1,aN (by simp(maxSteps:=9^7) (disch:=try exact dI) only[hts,UH,jm,TY,hcs,push_cast,seval]),by simp only[xM,if_pos g3] at hm ⊢;omega,by omega⟩
   ·have hm':m=xM (1<n) f.length:=by unfold xM at hm ⊢;split at hm<;>rename_i h1<;>(try rw[if_pos h1])<;>(try rw[if_neg h1])<;>omega
    have hexit:¬ m<f.length\/(m<f.length/\¬ m<6)\/(m<f.length/\m<6/\¬ 1<n):=by omega
    rcases hexit with g1 | ⟨g1,g2⟩ | ⟨g1,g2,g3⟩
    ·have g1I:¬ (m:Int)<f.length:=by omega
     simp(maxSteps:=9^7) (disch:=try exact dI) only[push_cast,seval]
     exact⟨m,hm',qsZ⟩
    ·have g1I:(m:Int)<f.length:=by omega
     have g2I:¬ (m:Int)<6:=by omega
     simp(maxSteps:=9^7) (disch:=try exact dI) only[push_cast,seval]
     exact⟨m,hm',qsZ⟩
    ·have g1I:(m:Int)<f.length:=by omega
     have g2I:(m:Int)<6:=by omega
     have g3I:¬ (1:Int)<n:=by omega
     simp(maxSteps:=9^7) (disch:=try exact dI) only[push_cast,seval]
     exact⟨m,hm',qsZ⟩
  ·intro q hq s1 hs1;simp(maxSteps:=9^7) (disch:=try exact dI) only[push_cast,seval] at hs1;subst hs1
   have hf:(f.take q).map (jm (bU (n - 1)))=if decide (1<n)=true then (f.take 6).map (jm (bU (n - 1))) else []:=by
    subst hq;unfold xM
    by_cases h:1<n
    ·simp only[h,decide_true,if_true];rw[Nat.min_comm,<- List.take_take,Ux (Nat.le_refl _)]
    ·simp[h]
   have hfin:(bU n (.mk k i s t l f)).pv = .agg [.int .i64 k,.int .i64 i,.int .i64 s,.str (t.take 40),.list (LL.map Val.pv),.list (((f.take q).map (jm (bU (n - 1)))).map Fld.pv)]:=by
    rw[hl,hf]
    cases n with
    | zero=>simp[bU,gS,Uo]
    | succ n=>simp[bU,gS,Uo]
   rw[hfin]
   simp(maxSteps:=9^7) (disch:=try exact dI) only[push_cast,seval]
theorem pY:∀ (n:Nat) (hn:n<=1000) (v:Val),v.ok->ap Tryz.prog aB 46 [v.pv,.int .i64 n] (bU n v).pv:=by
 intro n
 induction n using Nat.strongRecOn with
 | _ n ih=>exact fun hn v hv=>zj n hn (fun m v hmn=>ih m hmn (by omega) v) v hv
