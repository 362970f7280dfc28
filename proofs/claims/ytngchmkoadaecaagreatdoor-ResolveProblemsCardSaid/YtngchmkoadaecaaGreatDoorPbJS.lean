/- A part. -/
import Derived.Test.YtngchmkoadaecaaGreatDoorPbJD
set_option linter.unusedVariables false
set_option linter.unusedSimpArgs false
set_option maxRecDepth 100000
open List renaming getElem?_eq_some_iff->WU,length_map->XB,getElem?_eq_getElem->WT,mem_of_getElem?->WV,take->X9,map_append->Xe,take_of_length_le->WY,mem_of_mem_take->XL,mem_map->Xp
open Int renaming add_sub_cancel->XG
namespace Go.Proofs.YtngchmkoadaecaaGreatDoor
open Go Go.Ab
theorem e6 (s:List UInt8):ap Tryz.prog aC 17 [.str s] (.str (s.take 70)):=by
 refine ap.intro Q17.2 (by simp[Q17]) ?_
 simp(maxSteps:=9^7) (disch:=try exact dI) only[Q17,push_cast,seval]
def Au:Cal->Cal
 | .mk s m=>.mk (s.take 70) m
def OG (rec:List Stp->List Stp):Bra->Bra
 | .mk w l=>.mk (w.take 2) (rec l)
def dQ (rec:List Stp->List Stp)(on:Bool):Stp->Stp
 | .mk a b c d e f g h i j k=>.mk (a.take 70) b c d e (f.take 70) (g.take 70) (h.take 3) (i.take 4) ((j.take 18).map Au) (if on then (k.take 4).map (OG rec) else [])
def bM:Nat->List Stp->List Stp
 | 0,l=>(l.take 8).map (dQ id false)
 | n+1,l=>(l.take 8).map (dQ (bM n) true)
def ob:Nat->Stp->Stp
 | 0=>dQ id false
 | n+1=>dQ (bM n) true
theorem jR:∀ n l,bM n l=(l.take 8).map (ob n)
 | 0,l=>rfl
 | n+1,l=>rfl
def ut (q:Nat)(l:List Cal):List Cal:=(l.take q).map Au++l.drop q
theorem CY (l:List Cal):ut 0 l=l:=by simp[ut]
theorem Io (q:Nat)(l:List Cal):(ut q l).length=l.length:=by simp[ut];omega
theorem ur {q:Nat}{l:List Cal}{c:Cal}(h:l[q]? = some c):(ut q l)[q]? = some c:=by
 have hq:=(WU.1 h).1
 rw[ut,List.getElem?_append_right (by simp;omega)]
 simp only[XB,List.length_take,List.getElem?_drop]
 rw[show q+(q - min q l.length)=q by omega];exact h
theorem CZ {q:Nat}{l:List Cal}{c:Cal}(h:l[q]? = some c):ut (q+1) l=(ut q l).set q (Au c):=by
 have hq:=(WU.1 h).1
 have hc:=(WU.1 h).2
 have hl:((l.take q).map Au).length=q:=by simp;omega
 rw[ut,ut,List.set_append_right _ _ (by omega),hl,Nat.sub_self,List.take_succ_eq_append_getElem hq,List.drop_eq_getElem_cons hq,hc]
 simp
theorem Ip (l:List Cal):ut l.length l=l.map Au:=by simp[ut]
def okL (l:List Stp):Prop:=l.length*176<=140737488351232/\∀ x∈l,x.ok
theorem GQ (n:Nat)(hn:n<=1000)(ih:∀ m l,m<n->okL l->ap Tryz.prog aC 19 [.list (l.map Stp.pv),.int .i64 m] (.list ((bM m l).map Stp.pv)))
  (l:List Stp) (hl:okL l):ap Tryz.prog aC 19 [.list (l.map Stp.pv),.int .i64 n] (.list ((bM n l).map Stp.pv)):=by
 obtain⟨hm,hl⟩:=hl
 have hm':l.length<=9223372036854775807:=by omega
 refine ap.intro Tv (by simp[F19]) ?_
 simp(maxSteps:=9^7) (disch:=try exact dI) only[F19,push_cast,seval]
 refine au ([(5,0,51,11)]) (fun i:Nat=>[(5,.olist 0 11 (((l.take i).map (ob n)).map Stp.pv)),(6,.pv (.int .i64 (i:Int)))]) (fun _=>[]) (fun i=>i<=l.length/\i<=8) (fun i=>8 - i) (0) ?_;intro e0 σ0 n0 h0;simp(maxSteps:=9^7) (disch:=try exact dI) only[push_cast,seval] at h0;obtain⟨rfl,rfl,rfl⟩:=h0;refine⟨?_,?_,?_⟩
 ·simp(maxSteps:=9^7) (disch:=try exact dI) only[push_cast,seval]
 ·omega
 intro i hi
 obtain⟨hi1,hi2⟩:=hi
 by_cases hlt:i<l.length
 ·by_cases hlt8:i<8
  ·have hltI:(i:Int)<l.length:=by omega
   have hltI8:(i:Int)<8:=by omega
   obtain⟨s,hs⟩:∃ s,l[i]? = some s:=⟨l[i],WT hlt⟩
   have hok:=hl s (WV hs)
   obtain⟨a,b,c,d,e,f,g,h,ru,j,k⟩:=s
   rw[WE] at hok
   obtain⟨_,_,_,_,_,_,_,_,_,_,_,hjm,_,hkm,hkk⟩:=hok
   simp(maxSteps:=9^7) (disch:=try exact dI) only[hs,Stp.cells_len,Stp.isAgg,WF,push_cast,seval]
   refine ag (e6 a) rfl ?_
   simp(maxSteps:=9^7) (disch:=try exact dI) only[push_cast,seval]
   refine ag (e6 f) rfl ?_
   simp(maxSteps:=9^7) (disch:=try exact dI) only[push_cast,seval]
   refine ag (e6 g) rfl ?_
   have h18:(j.take 18).length<=18:=by simp;omega
   simp(maxSteps:=9^7) (disch:=try exact dI) only[Cal.cells_len,push_cast,seval]
   refine au ([]) (fun q:Nat=>[(8,.pv (.int .i64 (q:Int)))]) (fun q=>[(2,.cells 61 false (cw ((ut q (j.take 18)).map Cal.pv)))]) (fun q=>q<=(j.take 18).length) (fun q=>(j.take 18).length - q) (0) ?_;intro e0 σ0 n0 h0;simp(maxSteps:=9^7) (disch:=try exact dI) only[push_cast,seval] at h0;obtain⟨rfl,rfl,rfl⟩:=h0;refine⟨?_,?_,?_⟩
   ·simp(maxSteps:=9^7) (disch:=try exact dI) only[CY,push_cast,seval]
   ·omega
   ·intro q hq
    by_cases hql:q<(j.take 18).length
    ·obtain⟨cc,hcc⟩:∃ cc,(j.take 18)[q]? = some cc:=⟨_,WT hql⟩
     have hqlI:(q:Int)<(j.take 18).length:=by omega
     have hlen:=dV Cal.cells_len (ut q (j.take 18))
     rw[Io] at hlen
     have hget:=dc (o:=0) Cal.cells_len (ur hcc) (by omega)
     obtain⟨cs,cm⟩:=cc
     have hset:=py (o:=0) (y:=Au (.mk cs cm)) (p:=.str (cs.take 70)) Cal.cells_len (ur hcc) (by omega) (by rw[Au,Wj,Wj];rfl)
     rw[<- CZ hcc] at hset
     simp only[Nat.add_zero,Wj,ae,VV,oK] at hget
     simp only[Nat.add_zero,List.append_assoc,List.cons_append,List.nil_append] at hset
     simp(maxSteps:=9^7) (disch:=try exact dI) only[hget,hlen,hset,push_cast,seval]
     refine ag (e6 cs) rfl ?_
     simp(maxSteps:=9^7) (disch:=try exact dI) only[hlen,hset,push_cast,seval]
     exact⟨q+1,aJ qsZ,by omega,by omega⟩
    ·have hqe:q=(j.take 18).length:=by omega
     subst hqe
     simp(maxSteps:=9^7) (disch:=try exact dI) only[Ip,push_cast,seval]
     have hkm':k.length<=9223372036854775807:=by omega
     let st:=fun m:Nat=>[(1,Blk.cells 51 true [AV.pv (PV.str (X9 70 a)),AV.pv (PV.int IntKind.i64 b),AV.pv (PV.int IntKind.i64 c),
        AV.pv (PV.int IntKind.i64 d),AV.pv (PV.int IntKind.i64 e),AV.pv (PV.str (X9 70 f)),
        AV.pv (PV.str (X9 70 g)),AV.pv (PV.list ((X9 3 h).map Exp.pv)),AV.pv (PV.list ((X9 4 ru).map Rul.pv)),
        AV.row 2 2 0 (X9 18 j).length,.olist 3 2 (((k.take m).map (OG (bM (n - 1)))).map Bra.pv)])]
     refine au ([(7,11,111,2)]) (fun m:Nat=>[(9,.pv (.int .i64 (m:Int)))]) (fun m=>st m) (fun m=>m<=k.length/\m<=4/\(n=0->m=0)) (fun m=>4 - m) (0) ?_;intro e0 σ0 n0 h0;simp(maxSteps:=9^7) (disch:=try exact dI) only[push_cast,seval] at h0;obtain⟨rfl,rfl,rfl⟩:=h0;refine⟨?_,?_,?_⟩
     ·simp(maxSteps:=9^7) (disch:=try exact dI) only[st,push_cast,seval]
     ·omega
     ·rintro m ⟨hm1,hm2,hm3⟩
      simp only[st]
      by_cases hgo:m<k.length/\m<4/\0<n
      ·obtain⟨h1,h2,h3⟩:=hgo
       have h1I:(m:Int)<k.length:=by omega
       have h2I:(m:Int)<4:=by omega
       have h3I:(0:Int)<n:=by omega
       obtain⟨bb,hbb⟩:∃ bb,k[m]? = some bb:=⟨_,WT h1⟩
       have hbok:=hkk bb (WV hbb)
       obtain⟨w,ls⟩:=bb
       rw[Wg] at hbok
       obtain⟨n',rfl⟩:∃ n',n=n'+1:=⟨n - 1,by omega⟩
       have hts:=aE hbb
       have hcall:=ih n' ls (by omega) ⟨hbok.2.2.1,hbok.2.2.2⟩
       simp(maxSteps:=9^7) (disch:=try exact dI) only[hs,Stp.cells_len,WF,hbb,Bra.cells_len,Bra.isAgg,Wh,Nat.add_sub_cancel,XG,push_cast,seval]
       refine ag hcall rfl ?_
       simp(maxSteps:=9^7) (disch:=try exact dI) only[Wh,push_cast,seval]
       exact⟨m+1,aJ (by simp(maxSteps:=9^7) (disch:=try exact dI) only[hts,Xe,Wh,OG,push_cast,seval]),⟨by omega,by omega,fun h=>h.elim⟩,by omega⟩
      ·have hexit:¬ m<k.length\/(m<k.length/\¬ m<4)\/(m<k.length/\m<4/\¬ 0<n):=by omega
       have hfin:(ob n (.mk a b c d e f g h ru j k)).pv = .agg [.str (a.take 70),.int .i64 b,.int .i64 c,.int .i64 d,.int .i64 e,.str (f.take 70),.str (g.take 70),.list ((h.take 3).map Exp.pv),.list ((ru.take 4).map Rul.pv),.list (((j.take 18).map Au).map Cal.pv),.list (((k.take m).map (OG (bM (n - 1)))).map Bra.pv)]:=by
        cases n with
        | zero=>
          obtain rfl:=hm3 rfl
          simp only[ob,dQ,WF];simp
        | succ n=>
          have:k.take m=k.take 4:=by
           rcases hexit with h | h | h
           ·rw[WY (by omega),WY (by omega)]
           ·rw[show m=4 by omega]
           ·omega
          simp only[ob,dQ,WF,this,Nat.add_sub_cancel];simp
       have hts:=aE hs
       have hfz:=Jh Cal.row (by omega) ((j.take 18).map Au) (n:=(j.take 18).length) (r:=2) (T:=61) (b:=false) (by simp)
       have hend:∀ x:Nat,x=i+1->(x<=l.length/\x<=8)/\8 - x<8 - i:=fun x hx=>by omega
       rcases hexit with h1 | ⟨h1,h2⟩ | ⟨h1,h2,h3⟩
       ·have h1I:¬ (m:Int)<k.length:=by omega
        simp(maxSteps:=9^7) (disch:=try exact dI) only[hs,Stp.cells_len,WF,hfz,push_cast,seval]
        exact⟨i+1,aJ (by simp(maxSteps:=9^7) (disch:=try exact dI) only[hts,Xe,hfin,push_cast,seval]),hend _ rfl⟩
       ·have h1I:(m:Int)<k.length:=by omega
        have h2I:¬ (m:Int)<4:=by omega
        simp(maxSteps:=9^7) (disch:=try exact dI) only[hs,Stp.cells_len,WF,hfz,push_cast,seval]
        exact⟨i+1,aJ (by simp(maxSteps:=9^7) (disch:=try exact dI) only[hts,Xe,hfin,push_cast,seval]),hend _ rfl⟩
       ·have h1I:(m:Int)<k.length:=by omega
        have h2I:(m:Int)<4:=by omega
        have h3I:¬ (0:Int)<n:=by omega
        simp(maxSteps:=9^7) (disch:=try exact dI) only[hs,Stp.cells_len,WF,hfz,push_cast,seval]
        exact⟨i+1,aJ (by simp(maxSteps:=9^7) (disch:=try exact dI) only[hts,Xe,hfin,push_cast,seval]),hend _ rfl⟩
  ·have h8:i=8:=by omega
   subst h8
   have hltI:((8:Nat):Int)<l.length:=by omega
   simp(maxSteps:=9^7) (disch:=try exact dI) only[push_cast,seval]
   rw[jR]
   exact .refl _
 ·have hltI:¬ (i:Int)<l.length:=by omega
  have he:l.take i=l.take 8:=by rw[WY (by omega),WY (by omega)]
  simp(maxSteps:=9^7) (disch:=try exact dI) only[he,push_cast,seval]
  rw[jR]
  exact .refl _
theorem Bp:∀ (n:Nat) (hn:n<=1000) (l:List Stp),okL l->ap Tryz.prog aC 19 [.list (l.map Stp.pv),.int .i64 n] (.list ((bM n l).map Stp.pv)):=by
 intro n
 induction n using Nat.strongRecOn with
 | _ n ih=>exact fun hn l hl=>GQ n hn (fun m l hmn=>ih m hmn (by omega) l) l hl
theorem aR {α:Type}{l:List α}{n m:Nat}(h:l.length<=m):(l.take n).length<=m:=by simp;omega
theorem aK {α:Type}{l:List α}{n m b:Nat}(h:l.length*b<=m):(l.take n).length*b<=m:=Nat.le_trans (Nat.mul_le_mul_right _ (by simp;omega)) h
theorem bA {α:Type}{l:List α}{n:Nat}{Q:α->Prop}(h:∀ x∈l,Q x):∀ x∈l.take n,Q x:=fun x hx=>h x (XL hx)
theorem fI (n:Nat)(l:List Stp):(bM n l).length<=8:=by rw[jR];simp;omega
theorem oc {rec:List Stp->List Stp}{on:Bool}(hr:on=true->∀ l,okL l->okL (rec l))(s:Stp)(h:s.ok):(dQ rec on s).ok:=by
 obtain⟨a,b,c,d,e,f,g,hh,ru,j,k⟩:=s
 rw[dQ,WE]
 rw[WE] at h
 obtain⟨h1,h2,h3,h4,h5,h6,h7,h8,h9,h10,h11,h12,h13,h14,h15⟩:=h
 refine⟨(by first | exact aR h1 | exact aK h1),h2,h3,h4,h5,(by first | exact aR h6 | exact aK h6),(by first | exact aR h7 | exact aK h7),(by first | exact aR h8 | exact aK h8),bA h9,(by first | exact aR h10 | exact aK h10),bA h11,?_,?_,?_,?_⟩
 ·rw[XB];exact (by first | exact aR h12 | exact aK h12)
 ·intro x hx
  obtain⟨⟨y1,y2⟩,hy,rfl⟩:=Xp.1 hx
  have:=bA h13 _ hy
  rw[Wi] at this
  rw[Au,Wi]
  exact⟨(by first | exact aR this.1 | exact aK this.1),this.2⟩
 ·split
  ·rw[XB];exact (by first | exact aR h14 | exact aK h14)
  ·simp
 ·split
  ·rename_i hon
   intro x hx
   obtain⟨⟨y1,y2⟩,hy,rfl⟩:=Xp.1 hx
   have:=bA h15 _ hy
   rw[Wg] at this
   rw[OG,Wg]
   have hq:=hr hon y2 ⟨this.2.2.1,this.2.2.2⟩
   exact⟨(by first | exact aR this.1 | exact aK this.1),bA this.2.1,hq.1,hq.2⟩
  ·simp
theorem jQ:∀ (n:Nat) (l:List Stp),okL l->okL (bM n l)
 | 0,l,h=>by
   refine⟨by have:=fI 0 l;omega,fun x hx=>?_⟩
   rw[bM] at hx
   obtain⟨y,hy,rfl⟩:=Xp.1 hx
   exact oc (fun h=>by cases h) y (h.2 y (XL hy))
 | n+1,l,h=>by
   refine⟨by have:=fI (n+1) l;omega,fun x hx=>?_⟩
   rw[bM] at hx
   obtain⟨y,hy,rfl⟩:=Xp.1 hx
   exact oc (fun _ l hl=>jQ n l hl) y (h.2 y (XL hy))
def jS (rec:Val->Val):Fld->Fld
 | .mk n v=>.mk (n.take 40) (rec v)
def ij (rec:Val->Val)(on:Bool):Val->Val
 | .mk k i s t l f=>.mk k i s (t.take 40) (if on then (l.take 6).map rec else []) (if on then (f.take 6).map (jS rec) else [])
def ci:Nat->Val->Val
 | 0=>ij id false
 | n+1=>ij (ci n) (decide (0<n))
def Am (on:Prop)[Decidable on](len:Nat):Nat:=if on then min len 6 else 0
theorem Bq (n:Nat)(hn:n<=1000)(ih:∀ m v,m<n->v.ok->ap Tryz.prog aC 46 [v.pv,.int .i64 m] (ci m v).pv)(v:Val)(hv:v.ok):ap Tryz.prog aC 46 [v.pv,.int .i64 n] (ci n v).pv:=by
 obtain⟨k,i,s,t,l,f⟩:=v
 rw[WP] at hv
 obtain⟨h1,h2,h3,h4,h5,h7,h6,h8⟩:=hv
 refine ap.intro Q46.2 (by simp[Q46]) ?_
 simp(maxSteps:=9^7) (disch:=try exact dI) only[Q46,WQ,push_cast,seval]
 refine dY ([(5,0,108,6)]) (fun m:Nat=>[(5,.olist 2 6 (((l.take m).map (ci (n - 1))).map Val.pv)),(7,.pv (.int .i64 (m:Int)))]) (fun _=>[]) (fun m=>m<=Am (1<n) l.length) (fun m=>6 - m) (0) ([1,2,4,5,6]) (fun m=>m=Am (1<n) l.length) ?_;intro e0 σ0 n0 h0;simp(maxSteps:=9^7) (disch:=try exact dI) only[push_cast,seval] at h0;obtain⟨rfl,rfl,rfl⟩:=h0;refine⟨?_,?_,?_,?_⟩
 ·simp(maxSteps:=9^7) (disch:=try exact dI) only[push_cast,seval]
 ·omega
 ·intro m hm
  by_cases hgo:m<l.length/\m<6/\1<n
  ·obtain⟨g1,g2,g3⟩:=hgo
   have g1I:(m:Int)<l.length:=by omega
   have g2I:(m:Int)<6:=by omega
   have g3I:(1:Int)<n:=by omega
   obtain⟨x,hx⟩:∃ x,l[m]? = some x:=⟨_,WT g1⟩
   obtain⟨n',rfl⟩:∃ n',n=n'+1:=⟨n - 1,by omega⟩
   have hts:=aE hx
   simp(maxSteps:=9^7) (disch:=try exact dI) only[hx,Val.cells_len,Val.isAgg,Nat.add_sub_cancel,XG,push_cast,seval]
   refine ab.pure (ih n' x (by omega) (h7 x (WV hx))) rfl ?_
   simp(maxSteps:=9^7) (disch:=try exact dI) only[Val.cells_len,Val.ones,push_cast,seval]
   exact⟨m+1,aJ (by simp(maxSteps:=9^7) (disch:=try exact dI) only[hts,Xe,push_cast,seval]),by simp only[Am,if_pos g3] at hm ⊢;omega,by omega⟩
  ·have hm':m=Am (1<n) l.length:=by unfold Am at hm ⊢;split at hm<;>rename_i h1<;>(try rw[if_pos h1])<;>(try rw[if_neg h1])<;>omega
   have hexit:¬ m<l.length\/(m<l.length/\¬ m<6)\/(m<l.length/\m<6/\¬ 1<n):=by omega
   rcases hexit with g1 | ⟨g1,g2⟩ | ⟨g1,g2,g3⟩
   ·have g1I:¬ (m:Int)<l.length:=by omega
    simp(maxSteps:=9^7) (disch:=try exact dI) only[push_cast,seval]
    exact⟨m,hm',qsZ⟩
   ·have g1I:(m:Int)<l.length:=by omega
    have g2I:¬ (m:Int)<6:=by omega
    simp(maxSteps:=9^7) (disch:=try exact dI) only[push_cast,seval]
    exact⟨m,hm',qsZ⟩
   ·have g1I:(m:Int)<l.length:=by omega
    have g2I:(m:Int)<6:=by omega
    have g3I:¬ (1:Int)<n:=by omega
    simp(maxSteps:=9^7) (disch:=try exact dI) only[push_cast,seval]
    exact⟨m,hm',qsZ⟩
 ·intro m hm s1 hs1;simp(maxSteps:=9^7) (disch:=try exact dI) only[push_cast,seval] at hs1;subst hs1
  have hl:(l.take m).map (ci (n - 1))=if decide (1<n)=true then (l.take 6).map (ci (n - 1)) else []:=by
   subst hm;unfold Am
   by_cases h:1<n
   ·simp only[h,decide_true,if_true];rw[Nat.min_comm,<- List.take_take,WY (Nat.le_refl _)]
   ·simp[h]
  obtain⟨LL,hLL⟩:∃ LL,LL=(l.take m).map (ci (n - 1)):=⟨_,rfl⟩
  rw[<- hLL] at hl ⊢
  clear hLL
  simp(maxSteps:=9^7) (disch:=try exact dI) only[push_cast,seval]
  refine dY ([(6,0,138,7)]) (fun m:Nat=>[(6,.olist 3 7 (((f.take m).map (jS (ci (n - 1)))).map Fld.pv)),(8,.pv (.int .i64 (m:Int)))]) (fun _=>[]) (fun m=>m<=Am (1<n) f.length) (fun m=>6 - m) (0) ([2,4,5,6]) (fun m=>m=Am (1<n) f.length) ?_;intro e0 σ0 n0 h0;simp(maxSteps:=9^7) (disch:=try exact dI) only[push_cast,seval] at h0;obtain⟨rfl,rfl,rfl⟩:=h0;refine⟨?_,?_,?_,?_⟩
  ·simp(maxSteps:=9^7) (disch:=try exact dI) only[push_cast,seval]
  ·omega
  ·intro m hm
   by_cases hgo:m<f.length/\m<6/\1<n
   ·obtain⟨g1,g2,g3⟩:=hgo
    have g1I:(m:Int)<f.length:=by omega
    have g2I:(m:Int)<6:=by omega
    have g3I:(1:Int)<n:=by omega
    obtain⟨x,hx⟩:∃ x,f[m]? = some x:=⟨_,WT g1⟩
    have hxo:=h8 x (WV hx)
    obtain⟨nm,vv⟩:=x
    rw[Wp] at hxo
    obtain⟨n',rfl⟩:∃ n',n=n'+1:=⟨n - 1,by omega⟩
    have hcall:=ih n' vv (by omega) hxo.2
    have hts:=aE hx
    obtain⟨w1,w2,w3,w4,w5,w6⟩:=vv
    rw[WQ] at hcall
    have hlen:=Fld.cells_len (.mk nm (.mk w1 w2 w3 w4 w5 w6))
    rw[Wq,WQ] at hlen
    obtain⟨cs,hcs,hcl,hco⟩:=Val.row (ci n' (.mk w1 w2 w3 w4 w5 w6))
    have hone:cs.all PV.one=true:=List.all_eq_true.2 hco
    rw[hcs] at hcall
    obtain⟨u1,u2,u3,u4,u5,u6,rfl⟩:=N4 hcl
    simp only[List.all_cons,List.all_nil,Bool.and_true,Bool.and_eq_true] at hone
    obtain⟨o1,o2,o3,o4,o5,o6⟩:=hone
    simp(maxSteps:=9^7) (disch:=try exact dI) only[hx,Wq,WQ,Nat.add_sub_cancel,XG,push_cast,seval]
    refine ag hcall rfl ?_
    simp(maxSteps:=9^7) (disch:=try exact dI) only[o1,o2,o3,o4,o5,o6,push_cast,seval]
    exact⟨m+1,aJ (by simp(maxSteps:=9^7) (disch:=try exact dI) only[hts,Xe,jS,Wq,hcs,push_cast,seval]),by simp only[Am,if_pos g3] at hm ⊢;omega,by omega⟩
   ·have hm':m=Am (1<n) f.length:=by unfold Am at hm ⊢;split at hm<;>rename_i h1<;>(try rw[if_pos h1])<;>(try rw[if_neg h1])<;>omega
    have hexit:¬ m<f.length\/(m<f.length/\¬ m<6)\/(m<f.length/\m<6/\¬ 1<n):=by omega
    rcases hexit with g1 | ⟨g1,g2⟩ | ⟨g1,g2,g3⟩
    ·have g1I:¬ (m:Int)<f.length:=by omega
     simp(maxSteps:=9^7) (disch:=try exact dI) only[push_cast,seval]
     exact⟨m,hm',qsZ⟩
    ·have g1I:(m:Int)<f.length:=by omega
     have g2I:¬ (m:Int)<6:=by omega
     simp(maxSteps:=9^7) (disch:=try exact dI) only[push_cast,seval]
     exact⟨m,hm',qsZ⟩
    ·have g1I:(m:Int)<f.length:=by omega
     have g2I:(m:Int)<6:=by omega
     have g3I:¬ (1:Int)<n:=by omega
     simp(maxSteps:=9^7) (disch:=try exact dI) only[push_cast,seval]
     exact⟨m,hm',qsZ⟩
  ·intro q hq s1 hs1;simp(maxSteps:=9^7) (disch:=try exact dI) only[push_cast,seval] at hs1;subst hs1
   have hf:(f.take q).map (jS (ci (n - 1)))=if decide (1<n)=true then (f.take 6).map (jS (ci (n - 1))) else []:=by
    subst hq;unfold Am
    by_cases h:1<n
    ·simp only[h,decide_true,if_true];rw[Nat.min_comm,<- List.take_take,WY (Nat.le_refl _)]
    ·simp[h]
   have hfin:(ci n (.mk k i s t l f)).pv = .agg [.int .i64 k,.int .i64 i,.int .i64 s,.str (t.take 40),.list (LL.map Val.pv),.list (((f.take q).map (jS (ci (n - 1)))).map Fld.pv)]:=by
    rw[hl,hf]
    cases n with
    | zero=>simp[ci,ij,WQ]
    | succ n=>simp[ci,ij,WQ]
   rw[hfin]
   simp(maxSteps:=9^7) (disch:=try exact dI) only[push_cast,seval]
theorem rm:∀ (n:Nat) (hn:n<=1000) (v:Val),v.ok->ap Tryz.prog aC 46 [v.pv,.int .i64 n] (ci n v).pv:=by
 intro n
 induction n using Nat.strongRecOn with
 | _ n ih=>exact fun hn v hv=>Bq n hn (fun m v hmn=>ih m hmn (by omega) v) v hv
