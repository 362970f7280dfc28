/- A part. -/
import Derived.Test.YtamoeblcphjbaaaGreatDoorTyLU2
set_option linter.unusedVariables false
set_option linter.unusedSimpArgs false
set_option maxHeartbeats 16000000
set_option maxRecDepth 100000
open List renaming map_cons->WP,map_nil->Xp,length_nil->WL,mem_map->Xo,length_cons->WG,take_length->WV,getElem?_eq_getElem->WE,mem_of_getElem?->WK,nil_append->WO,append_nil->W7,append_assoc->WS,length_append->WF,cons_append->WQ
open Nat renaming zero_le->Xr
namespace Go.Proofs.YtamoeblcphjbaaaGreatDoor
open Go Go.Ab
attribute [local irreducible] vc
theorem DI:aX 1=[98,111,111,108]/\aX 2=[105,110,116]/\aX 3=[100,101,99,105,109,97,108]/\aX 4=[116,101,120,116]/\aX 5=[98,121,116,101,115]/\aX 6=[100,97,116,101]/\aX 7=[116,105,109,101]/\aX 8=[108,105,115,116]/\aX 9=[114,101,99,111,114,100]/\aX 10=[118,97,114,105,97,110,116]:=⟨rfl,rfl,rfl,rfl,rfl,rfl,rfl,rfl,rfl,rfl⟩
def oa (sep:List UInt8):List (List UInt8)->List UInt8
 | []=>[]
 | x::r=>x++r.flatMap fun y=>sep++y
theorem pq (sep:List UInt8):∀ l:List (List UInt8),oa sep l=aM sep l
 | []=>rfl
 | [x]=>by simp[oa,aM]
 | x::y::r=>by
   have h:=pq sep (y::r)
   simp only[oa,aM,List.flatMap_cons] at h ⊢
   rw[<- h];simp
theorem C5 (sep:List UInt8)(l:List (List UInt8))(x:List UInt8)(h:l≠[]):oa sep (l++[x])=oa sep l++sep++x:=by
 cases l with
 | nil=>exact absurd rfl h
 | cons y r=>simp[oa]
theorem C6 (sep:List UInt8)(K:Nat)(l:List (List UInt8))(h:∀ x∈l,x.length+sep.length<=K):(oa sep l).length<=K*l.length:=by
 have:=pK sep id K l h
 rw[List.map_id] at this
 rw[pq];exact this
theorem rk {α:Type}(sep:List UInt8)(g:α->List UInt8){l:List α}{i:Nat}{x:α}(h:l[i]? = some x):oa sep ((l.take (i+1)).map g)=(if i=0 then [] else oa sep ((l.take i).map g)++sep)++g x:=by
 have hi:=(List.getElem?_eq_some_iff.1 h).1
 rw[aK h,List.map_append,WP,Xp]
 by_cases h0:i=0
 ·subst h0
  rw[if_pos rfl];simp[oa]
 ·rw[if_neg h0]
  refine C5 _ _ _ fun q=>?_
  have:=congrArg List.length q
  rw[List.length_map,List.length_take,WL] at this
  omega
theorem KT:∀ (n:Nat) (t:Typ),sR n t->Me n t->am Tryz.prog aC 32 [t.pv] (.str (aI n t))
 | 0,_,_,h=>h.elim
 | n+1,.mk k m M s w e f,hT,hL=>by
   have ih:=KT n
   obtain⟨l1,l2,l3,l4,l5,l6⟩:=hL
   obtain⟨n1,n2,n3,n4,n5,n6,n7,n8,n9,n10⟩:=DI
   have hnn:(-999999999999999<=m/\m<=999999999999999)/\(-999999999999999<=M/\M<=999999999999999):=by
    unfold sR at hT
    unfold IsN at hT
    rcases hT with q | q | q | q | q | q | q | q<;>omega
   have hi1:=je m hnn.1.1 hnn.1.2
   have hi2:=je M hnn.2.1 hnn.2.2
   have a1:(aN m).length<=1000:=cJ ⟨hnn.1.1,hnn.1.2,by omega⟩
   have a2:(aN M).length<=1000:=cJ ⟨hnn.2.1,hnn.2.2,by omega⟩
   clear hnn
   unfold sR at hT
   rcases hT with ⟨rfl,rfl,rfl,rfl,rfl,rfl,rfl⟩ | ⟨hk,hm,hM,rfl,rfl,rfl,rfl⟩ | ⟨rfl,hs0,hs,hm,hM,rfl,rfl,rfl⟩ | ⟨rfl,rfl,rfl,rfl,hw,hv,rfl,rfl⟩ | ⟨rfl,hm,hM,rfl,rfl,rfl,rfl⟩ | ⟨rfl,hm,hM,rfl,rfl,rfl,rfl⟩ | ⟨rfl,hm,hM,rfl,rfl,⟨x,rfl,hx⟩,rfl⟩ | ⟨hk,rfl,rfl,rfl,rfl,rfl,hf⟩
   ·have hS0:aI (n+1) (.mk 1 0 0 0 [] [] [])=aX 1:=by rw[aI];exact if_pos rfl
    have hS:=hS0.trans n1
    rw[hS]
    clear l1 ih hS hS0 n1 n2 n3 n4 n5 n6 n7 n8 n9 n10
    refine am.intro Q32.2 (by simp[Q32]) ?_
    simp(disch:=try exact dI) only[Q32,WB,push_cast,seval]
    refine ag hi1 rfl ?_
    refine zgZ ?_
    refine ag hi2 rfl ?_
    exact qsZ
   ·rw[bA n (by omega),xe _ k m M hk]
    have hBl:(aN m).length+(aN M).length<=2000:=by omega
    unfold ew
    obtain⟨L,hL,hk⟩:∃ L,aX k=L/\((k=2/\L=[105,110,116])\/(k=4/\L=[116,101,120,116])\/(k=5/\L=[98,121,116,101,115])):=by
     rcases hk with rfl | rfl | rfl
     ·exact⟨_,rfl,.inl ⟨rfl,n2⟩⟩
     ·exact⟨_,rfl,.inr (.inl ⟨rfl,n4⟩)⟩
     ·exact⟨_,rfl,.inr (.inr ⟨rfl,n5⟩)⟩
    rw[hL]
    clear l1 ih n1 n2 n3 n4 n5 n6 n7 n8 n9 n10
    generalize aN m=x at *
    generalize aN M=y at *
    have hS:L++([40]++x++[46,46]++y)++[41]=L++(40::((x++([46,46]++y))++[41])):=by simp
    rw[<- hS]
    clear hS hL
    rcases hk with ⟨rfl,rfl⟩ | ⟨rfl,rfl⟩ | ⟨rfl,rfl⟩
    all_goals
     refine am.intro Q32.2 (by simp[Q32]) ?_
     simp(disch:=try exact dI) only[Q32,WB,push_cast,seval]
     refine ag hi1 rfl ?_
     refine zgZ ?_
     refine ag hi2 rfl ?_
     exact qsZ
   ·obtain⟨sc,rfl⟩:∃ sc:Nat,s=(sc:Int):=⟨s.toNat,by omega⟩
    rw[Int.toNat_natCast] at hm hM
    have hi:=je (sc:Int) (by unfold IsN at hs;omega) (by unfold IsN at hs;omega)
    have a0:=cJ hs
    have d1:=qE hm
    have d2:=qE hM
    have b1:=cw hm
    have b2:=cw hM
    rw[bA n (by omega),bp,if_pos rfl,Int.toNat_natCast,n3]
    unfold ew
    clear l1 ih n1 n2 n3 n4 n5 n6 n7 n8 n9 n10
    generalize cl m sc=x at *
    generalize cl M sc=y at *
    generalize aN (sc:Int)=J at *
    generalize aN m=x' at *
    generalize aN M=y' at *
    have hS:[100,101,99,105,109,97,108,40]++J++[44,32]++x++[46,46]++y++[41]=[100,101,99,105,109,97,108]++(40::((J++(44::32::(x++([46,46]++y))))++[41])):=by simp
    rw[<- hS]
    refine am.intro Q32.2 (by simp[Q32]) ?_
    simp(disch:=try exact dI) only[Q32,WB,push_cast,seval]
    refine ag hi1 rfl ?_
    refine zgZ ?_
    refine ag hi2 rfl ?_
    refine zgZ ?_
    refine ae.pure d1 rfl ?_
    refine zgZ ?_
    refine ae.pure d2 rfl ?_
    refine zgZ ?_
    refine ae.pure hi rfl ?_
    exact qsZ
   ·have hlw:0<w.length:=List.length_pos_iff.2 hw
    have hlwI:¬ (w.length:Int)=0:=by omega
    have hb:∀ i,(oa [32,124,32] ((w.take i).map aA)).length<=7000*64:=fun i=>by
     have h1:=C6 [32,124,32] 7000 ((w.take i).map aA) fun y hy=>by
      obtain⟨x,hx,rfl⟩:=Xo.1 hy
      have:=bf x
      have:=l3 x (List.mem_of_mem_take hx)
      simp only[WG,WL]
      omega
     have h2:((w.take i).map aA).length<=64:=by simp;omega
     have:=Nat.mul_le_mul_left 7000 h2
     omega
    have hfull:oa [32,124,32] ((w.take w.length).map aA)=aM [32,124,32] (w.map aA):=by rw[WV,pq]
    have hts:=fun (i:Nat) (x:List UInt8) (h:w[i]? = some x)=>rk [32,124,32] aA h
    rw[bA n (by omega),bp,if_neg (by omega),if_neg (by omega),if_neg (by omega),if_neg (by omega),if_neg (by omega),if_pos hlw,<- hfull,n4]
    clear l1 ih n1 n2 n3 n4 n5 n6 n7 n8 n9 n10
    have hp0:oa [32,124,32] ((w.take 0).map aA)=[]:=rfl
    generalize hP:(fun i=>oa [32,124,32] ((w.take i).map aA))=Pj at *
    have hP':∀ i,oa [32,124,32] ((w.take i).map aA)=Pj i:=fun i=>congrFun hP i
    simp only[hP'] at hb hts hp0 ⊢
    clear hP hP' hfull
    have hS:[116,101,120,116,40]++Pj w.length++[41]=[116,101,120,116]++(40::(Pj w.length++[41])):=by simp
    rw[<- hS]
    clear hS
    refine am.intro Q32.2 (by simp[Q32]) ?_
    simp(disch:=try exact dI) only[Q32,WB,push_cast,seval]
    refine ag hi1 rfl ?_
    refine zgZ ?_
    refine ag hi2 rfl ?_
    simp(disch:=try exact dI) only[hlwI,push_cast,seval]
    refine aG ([]) (fun i:Nat=>[(8,.pv (.str ([116,101,120,116,40]++Pj i))),(9,.pv (.int .i64 (i:Int)))]) (fun _=>[]) (fun i=>i<=w.length) (fun i=>w.length - i) (0) ?_;intro e0 σ0 n0 h0;simp(disch:=try exact dI) only[push_cast,seval] at h0;obtain⟨rfl,rfl,rfl⟩:=h0;refine⟨?_,?_,?_⟩
    ·simp(disch:=try exact dI) only[hp0,push_cast,seval]
    ·exact Xr _
    intro i hi
    have hbi:=hb i
    by_cases hlt:i<w.length
    ·have hltI:(i:Int)<(w.length:Int):=by omega
     obtain⟨x,hx⟩:∃ x,w[i]? = some x:=⟨_,WE hlt⟩
     have hx':(w.map PV.str)[i]? = some (.str x):=by simp[hx]
     have hxl:=l3 x (WK hx)
     have hq:=wn x (by omega)
     have hql:=bf x
     have htx:=hts i x hx
     by_cases h0:i=0
     ·have h0I:¬ (0:Int)<(i:Int):=by omega
      have hPi:Pj i=[]:=by rw[h0];exact hp0
      rw[if_pos h0,WO] at htx
      simp(disch:=try exact dI) only[hltI,hx',h0I,hPi,W7,push_cast,seval]
      refine ae.pure hq rfl ?_
      refine zgZ ?_
      exact⟨i+1,bl (by simp(disch:=try exact dI) only[htx,push_cast,seval]),by omega,by omega⟩
     ·have h0I:(0:Int)<(i:Int):=by omega
      rw[if_neg h0] at htx
      generalize Pj i=Q at *
      simp(disch:=try exact dI) only[hltI,hx',h0I,push_cast,seval]
      refine ae.pure hq rfl ?_
      refine zgZ ?_
      exact⟨i+1,bl (by simp(disch:=try exact dI) only[htx,WS,push_cast,seval]),by omega,by omega⟩
    ·have hltI:¬ (i:Int)<(w.length:Int):=by omega
     obtain rfl:i=w.length:=by omega
     simp(disch:=try exact dI) only[hltI,push_cast,seval]
   ·obtain⟨p1,p2,p3⟩:=iH hm
    obtain⟨q1,q2,q3⟩:=iH hM
    rw[bA n (by omega),bp,if_neg (by omega),if_pos rfl,n6,di p2,di q2]
    unfold ew
    clear l1 ih n1 n2 n3 n4 n5 n6 n7 n8 n9 n10
    generalize gV m=x at *
    generalize gV M=y at *
    generalize aN m=x' at *
    generalize aN M=y' at *
    have hS:[100,97,116,101,40,34]++x++[34,46,46,34]++y++[34,41]=[100,97,116,101]++(40::((([34]++x++[34])++([46,46]++([34]++y++[34])))++[41])):=by simp
    first | rw[<- hS] | skip
    refine am.intro Q32.2 (by simp[Q32]) ?_
    simp(disch:=try exact dI) only[Q32,WB,push_cast,seval]
    refine ag hi1 rfl ?_
    refine zgZ ?_
    refine ag hi2 rfl ?_
    refine zgZ ?_
    refine ae.pure p1 rfl ?_
    refine zgZ ?_
    refine ae.pure q1 rfl ?_
    exact qsZ
   ·obtain⟨p1,p2,p3⟩:=fl hm
    obtain⟨q1,q2,q3⟩:=fl hM
    rw[bA n (by omega),bp,if_neg (by omega),if_neg (by omega),if_pos rfl,n7,di p2,di q2]
    unfold ew
    clear l1 ih n1 n2 n3 n4 n5 n6 n7 n8 n9 n10
    generalize ct m=x at *
    generalize ct M=y at *
    generalize aN m=x' at *
    generalize aN M=y' at *
    have hS:[116,105,109,101,40,34]++x++[34,46,46,34]++y++[34,41]=[116,105,109,101]++(40::((([34]++x++[34])++([46,46]++([34]++y++[34])))++[41])):=by simp
    first | rw[<- hS] | skip
    refine am.intro Q32.2 (by simp[Q32]) ?_
    simp(disch:=try exact dI) only[Q32,WB,push_cast,seval]
    refine ag hi1 rfl ?_
    refine zgZ ?_
    refine ag hi2 rfl ?_
    refine zgZ ?_
    refine ae.pure p1 rfl ?_
    refine zgZ ?_
    refine ae.pure q1 rfl ?_
    exact qsZ
   ·have hc:=ih x hx (l5 x (by simp))
    have hcl:=(l5 x (by simp)).len
    rw[bA n (by omega),bp,if_neg (by omega),if_neg (by omega),if_neg (by omega),if_neg (by omega),if_pos rfl,show [x].headD bX=x from rfl,n8]
    unfold ew
    clear l5
    clear l1 ih n1 n2 n3 n4 n5 n6 n7 n8 n9 n10
    generalize aI n x=X at *
    generalize aN m=x' at *
    generalize aN M=y' at *
    have hS:[108,105,115,116]++([40]++x'++[46,46]++y')++[44,32]++X++[41]=[108,105,115,116]++(40::(((x'++([46,46]++y'))++(44::32::X))++[41])):=by simp
    rw[<- hS]
    obtain⟨x1,x2,x3,x4,x5,x6,x7⟩:=x
    simp only[WB] at hc
    refine am.intro Q32.2 (by simp[Q32]) ?_
    simp(disch:=try exact dI) only[Q32,WB,WP,Xp,push_cast,seval]
    refine ag hi1 rfl ?_
    refine zgZ ?_
    refine ag hi2 rfl ?_
    simp(disch:=try exact dI) only[WB,ap,V2,push_cast,seval]
    refine ae.pure hc rfl ?_
    exact qsZ
   ·have hins:Oi (aI n) (.mk k 0 0 0 [] [] f)=aM [44,32] (f.map (bx (aI n))):=by
     rw[bp,if_neg (by omega),if_neg (by omega),if_neg (by omega),if_pos hk]
    have hfull:oa [44,32] ((f.take f.length).map (bx (aI n)))=aM [44,32] (f.map (bx (aI n))):=by rw[WV,pq]
    have hb:∀ i,(oa [44,32] ((f.take i).map (bx (aI n)))).length<=170000000002*64:=fun i=>by
     have h1:=C6 [44,32] 170000000002 ((f.take i).map (bx (aI n))) fun y hy=>by
      obtain⟨x,hx,rfl⟩:=Xo.1 hy
      have:=(l6 x (List.mem_of_mem_take hx)).2.1
      simp only[WG,WL]
      omega
     have h2:((f.take i).map (bx (aI n))).length<=64:=by simp;omega
     have:=Nat.mul_le_mul_left 170000000002 h2
     omega
    have hts:=fun (i:Nat) (x:TFd) (h:f[i]? = some x)=>rk [44,32] (bx (aI n)) h
    have hcs:∀ g∈f,am Tryz.prog aC 32 [g.typ.pv] (.str (aI n g.typ)):=fun g hg=>ih g.typ (sf (hf g hg)) (l6 g hg).1
    rw[bA n (by omega),hins,<- hfull]
    clear hins hfull hf ih l1 l5
    have hp0:oa [44,32] ((f.take 0).map (bx (aI n)))=[]:=rfl
    generalize hP:(fun i=>oa [44,32] ((f.take i).map (bx (aI n))))=Pj at *
    have hP':∀ i,oa [44,32] ((f.take i).map (bx (aI n)))=Pj i:=fun i=>congrFun hP i
    simp only[hP'] at hb hts hp0 ⊢
    clear hP hP'
    obtain⟨K,hK,hKl,hKs⟩:∃ K:List UInt8,((k=9/\K=[114,101,99,111,114,100,40])\/(k=10/\K=[118,97,114,105,97,110,116,40]))/\K.length<=10/\K++Pj f.length++[41]=aX k++(40::(Pj f.length++[41])):=by
     rcases hk with rfl | rfl
     ·exact⟨_,.inl ⟨rfl,rfl⟩,by decide,by rw[n9];simp⟩
     ·exact⟨_,.inr ⟨rfl,rfl⟩,by decide,by rw[n10];simp⟩
    rw[<- hKs]
    clear hKs n1 n2 n3 n4 n5 n6 n7 n8 n9 n10
    rcases hK with ⟨rfl,hK⟩ | ⟨rfl,hK⟩
    all_goals
     refine am.intro Q32.2 (by simp[Q32]) ?_
     simp(disch:=try exact dI) only[Q32,WB,push_cast,seval]
     refine ag hi1 rfl ?_
     refine zgZ ?_
     refine ag hi2 rfl ?_
     refine zgZ ?_
     rw[<- hK]
     refine aG ([]) (fun i:Nat=>[(18,.pv (.str (K++Pj i))),(19,.pv (.int .i64 (i:Int)))]) (fun _=>[]) (fun i=>i<=f.length) (fun i=>f.length - i) (0) ?_;intro e0 σ0 n0 h0;simp(disch:=try exact dI) only[push_cast,seval] at h0;obtain⟨rfl,rfl,rfl⟩:=h0;refine⟨?_,?_,?_⟩
     ·simp(disch:=try exact dI) only[hp0,W7,push_cast,seval]
     ·exact Xr _
     intro i hi
     have hbi:=hb i
     by_cases hlt:i<f.length
     ·have hltI:(i:Int)<(f.length:Int):=by omega
      obtain⟨x,hx⟩:∃ x,f[i]? = some x:=⟨_,WE hlt⟩
      have hx':(f.map TFd.pv)[i]? = some x.pv:=by simp[hx]
      have hxm:=WK hx
      have hq:=hcs x hxm
      obtain⟨g1,g2,g3,g4,g5,g6⟩:=l6 x hxm
      have hgl:=g1.len
      have htx:=hts i x hx
      obtain⟨Y,hY,hYl⟩:∃ Y,K++Pj (i+1)=K++Y++bx (aI n) x/\(K++Y=if i=0 then K else K++Pj i++[44,32]):=by
       refine⟨if i=0 then [] else Pj i++[44,32],by rw[htx];simp,?_⟩
       by_cases h0:i=0
       ·rw[if_pos h0,if_pos h0];simp
       ·rw[if_neg h0,if_neg h0];simp
      have hYn:(K++Y).length<=20000000000000:=by
       rw[hYl]
       split
       ·omega
       ·simp only[WF,WG,WL];omega
      have hsp:i=0/\K++Pj i=K\/0<i:=by
       by_cases h0:i=0
       ·subst h0;exact .inl ⟨rfl,by rw[hp0,W7]⟩
       ·exact .inr (by omega)
      obtain⟨u1,u2,u3,⟨w1,w2,w3,w4,w5,w6,w7⟩,u5⟩:=x
      simp only[TFd.typ,TFd.name,TFd.number,TFd.need,TFd.dflt] at *
      have hn:=je u1 (by omega) (by omega)
      have hnl:(aN u1).length<=1000:=cJ (by unfold IsN;omega)
      rw[lm] at hY g2
      generalize aI n (.mk w1 w2 w3 w4 w5 w6 w7)=X at *
      generalize aN u1=J at *
      simp only[Wt,WB,ap] at hx' hq
      have hneed:u3=1\/u3=2\/u3=3:=by omega
      rcases hsp with ⟨h0,h0K⟩ | h0
      case' inl=>
       have h0I:¬ (0:Int)<(i:Int):=by omega
       rw[if_pos h0] at hYl
       rw[hYl] at hY hYn
       simp(disch:=try exact dI) only[hltI,hx',h0I,h0K,ap,push_cast,seval]
       clear h0K
      case' inr=>
       have h0I:(0:Int)<(i:Int):=by omega
       rw[if_neg (by omega)] at hYl
       rw[hYl] at hY hYn
       have hQl:(K++Pj i).length<=20000000000000:=by rw[WF];omega
       generalize K++Pj i=Q at *
       simp(disch:=try exact dI) only[hltI,hx',h0I,ap,push_cast,seval]
      all_goals
       clear hYl
       rcases hneed with rfl | rfl | rfl
       ·rw[if_neg (by decide),if_neg (by decide)] at hY
        refine ag hn rfl ?_
        refine zgZ ?_
        refine ae.pure hq rfl ?_
        refine zgZ ?_
        exact⟨i+1,bl (by simp(disch:=try exact dI) only[hY,WO,W7,WS,push_cast,seval]),by omega,by omega⟩
       ·rw[if_pos rfl,if_neg (by decide)] at hY
        refine ag hn rfl ?_
        refine zgZ ?_
        refine ae.pure hq rfl ?_
        refine zgZ ?_
        exact⟨i+1,bl (by simp(disch:=try exact dI) only[hY,WO,W7,WS,push_cast,seval]),by omega,by omega⟩
       ·obtain⟨v,rfl,hv⟩:=g6 rfl
        rw[if_neg (by decide),if_pos rfl,show p7 [v]=[32,61,32]++txt v from rfl] at hY
        have hvt:=(Qi hv).2
        have hvl:=th hv
        generalize txt v=V at *
        obtain⟨v1,v2,v3,v4,v5,v6⟩:=v
        simp only[WD] at hvt
        refine ag hn rfl ?_
        refine zgZ ?_
        refine ae.pure hq rfl ?_
        simp(disch:=try exact dI) only[WP,Xp,WD,V1,push_cast,seval]
        refine ae.pure hvt rfl ?_
        refine zgZ ?_
        exact⟨i+1,bl (by simp(disch:=try exact dI) only[hY,WO,W7,WS,push_cast,seval]),by omega,by omega⟩
     ·have hltI:¬ (i:Int)<(f.length:Int):=by omega
      obtain rfl:i=f.length:=by omega
      simp(disch:=try exact dI) only[hltI,push_cast,seval]
open Go.RowKit
def dO {α:Type}(o:Int->Int->Int)(g:α->Int):Int->List α->Int
 | a,[]=>a
 | a,x::r=>dO o g (o a (g x)) r
theorem eW {α:Type}(o:Int->Int->Int)(g:α->Int)(x:α):∀ (l:List α) (a:Int),dO o g a (l++[x])=o (dO o g a l) (g x)
 | [],a=>rfl
 | y::r,a=>by rw[WQ,dO,eW o g x r];rfl
def jo (o:Int->Int->Int)(g:Typ->Int)(h:Val->Int):Int->List TFd->Int
 | a,[]=>a
 | a,x::r=>jo o g h (dO o h (o a (g x.typ)) x.dflt) r
theorem j9 (o:Int->Int->Int)(g:Typ->Int)(h:Val->Int)(x:TFd):∀ (l:List TFd) (a:Int),jo o g h a (l++[x])=dO o h (o (jo o g h a l) (g x.typ)) x.dflt
 | [],a=>rfl
 | y::r,a=>by rw[WQ,jo,j9 o g h x r];rfl
noncomputable def dTW:Nat->Typ->Int
 | 0,_=>0
 | n+1,t=>IntKind.i64.wrap (jo max (dTW n) (fun v=>gH (lvl v) v) (dO max (dTW n) 0 t.elem) t.fields+1)
def yd (a b:Int):Int:=IntKind.i64.wrap (a+b)
noncomputable def sTW:Nat->Typ->Int
 | 0,_=>0
 | n+1,t=>jo yd (sTW n) (fun v=>lV (lvl v) v) (dO yd (sTW n) (1+(t.words.length:Int)) t.elem) t.fields
theorem Fp:∀ (n:Nat) (t:Typ),bN n t->am Tryz.prog aC 28 [t.pv] (.int .i64 (dTW n t))
 | 0,_,h=>h.elim
 | n+1,.mk k m M s w e f,h=>by
   have ih:=Fp n
   simp only[bN] at h
   obtain⟨hw,hel,hfl,he,hf⟩:=h
   have h1:∀ x∈e,am Tryz.prog aC 28 [x.pv] (.int .i64 (dTW n x)):=fun x hx=>ih x (he x hx)
   have h2:∀ x∈f,am Tryz.prog aC 28 [x.typ.pv] (.int .i64 (dTW n x.typ)):=fun x hx=>ih x.typ (hf x hx).2.2
   have h3:∀ x∈f,x.dflt.length<=9000000000000/\∀ v∈x.dflt,am Tryz.prog aC 34 [v.pv] (.int .i64 (gH (lvl v) v)):=fun x hx=>⟨by have:=(hf x hx).1;omega,fun v hv=>uV (lvl v) v (iC v) ((hf x hx).2.1 v hv)⟩
   rw[dTW]
   simp only[Typ.elem,Typ.fields]
   clear ih he hf
   generalize dTW n=G at *
   generalize hH:(fun v=>gH (lvl v) v)=Hv at *
   have hH':∀ v,gH (lvl v) v=Hv v:=fun v=>congrFun hH v
   simp only[hH'] at h3
   clear hH hH'
   refine am.intro Q28.2 (by simp[Q28]) ?_
   simp(disch:=try exact dI) only[Q28,WB,push_cast,seval]
   refine aG ([]) (fun i:Nat=>[(3,.pv (.int .i64 (dO max G 0 (e.take i)))),(4,.pv (.int .i64 (i:Int)))]) (fun _=>[]) (fun i=>i<=e.length) (fun i=>e.length - i) (0) ?_;intro e0 σ0 n0 h0;simp(disch:=try exact dI) only[push_cast,seval] at h0;obtain⟨rfl,rfl,rfl⟩:=h0;refine⟨?_,?_,?_⟩
   ·refine zgZ ?_
    exact .refl _
   ·exact Xr _
   rintro i hi
   by_cases hlt:i<e.length
   ·have hltI:(i:Int)<(e.length:Int):=by omega
    obtain⟨x,hx⟩:∃ x,e[i]? = some x:=⟨_,WE hlt⟩
    have hx':(e.map Typ.pv)[i]? = some x.pv:=by simp[hx]
    have hc:=h1 x (WK hx)
    have hts:dO max G 0 (e.take (i+1))=max (dO max G 0 (e.take i)) (G x):=by rw[aK hx,eW]
    generalize G x=X at *
    obtain⟨x1,x2,x3,x4,x5,x6,x7⟩:=x
    simp only[WB] at hx' hc
    simp(disch:=try exact dI) only[hltI,hx',ap,push_cast,seval]
    refine ae.pure hc rfl ?_
    refine zgZ ?_
    exact⟨i+1,bl (by simp(disch:=try exact dI) only[hts,push_cast,seval]),by omega,by omega⟩
   have hltI:¬ (i:Int)<(e.length:Int):=by omega
   obtain rfl:i=e.length:=by omega
   rw[WV]
   generalize dO max G 0 e=D at *
   simp(disch:=try exact dI) only[hltI,push_cast,seval]
   refine aG ([]) (fun i:Nat=>[(3,.pv (.int .i64 (jo max G Hv D (f.take i)))),(5,.pv (.int .i64 (i:Int)))]) (fun _=>[]) (fun i=>i<=f.length) (fun i=>f.length - i) (0) ?_;intro e0 σ0 n0 h0;simp(disch:=try exact dI) only[push_cast,seval] at h0;obtain⟨rfl,rfl,rfl⟩:=h0;refine⟨?_,?_,?_⟩
   ·refine zgZ ?_
    exact .refl _
   ·exact Xr _
   rintro i hi
   by_cases hlt:i<f.length
   ·have hltI:(i:Int)<(f.length:Int):=by omega
    obtain⟨x,hx⟩:∃ x,f[i]? = some x:=⟨_,WE hlt⟩
    have hx':(f.map TFd.pv)[i]? = some x.pv:=by simp[hx]
    have hc:=h2 x (WK hx)
    obtain⟨hdl,hcd⟩:=h3 x (WK hx)
    have hts:jo max G Hv D (f.take (i+1))=dO max Hv (max (jo max G Hv D (f.take i)) (G x.typ)) x.dflt:=by rw[aK hx,j9]
    generalize jo max G Hv D (f.take i)=Q at *
    obtain⟨u1,u2,u3,⟨x1,x2,x3,x4,x5,x6,x7⟩,dv⟩:=x
    simp only[TFd.typ,TFd.dflt] at hc hdl hcd hts
    generalize G (.mk x1 x2 x3 x4 x5 x6 x7)=X at *
    simp only[Wt,WB,ap] at hx' hc
    simp(disch:=try exact dI) only[hltI,hx',ap,push_cast,seval]
    refine ae.pure hc rfl ?_
    refine zgZ ?_
    refine aG ([]) (fun j:Nat=>[(3,.pv (.int .i64 (dO max Hv (max Q X) (dv.take j)))),(6,.pv (.int .i64 (j:Int)))]) (fun _=>[]) (fun j=>j<=dv.length) (fun j=>dv.length - j) (0) ?_;intro e0 σ0 n0 h0;simp(disch:=try exact dI) only[push_cast,seval] at h0;obtain⟨rfl,rfl,rfl⟩:=h0;refine⟨?_,?_,?_⟩
    ·refine zgZ ?_
     exact .refl _
    ·exact Xr _
    rintro j hj
    by_cases hjl:j<dv.length
    ·have hjlI:(j:Int)<(dv.length:Int):=by omega
     obtain⟨v,hv⟩:∃ v,dv[j]? = some v:=⟨_,WE hjl⟩
     have hv':(dv.map Val.pv)[j]? = some v.pv:=by simp[hv]
     have hcv:=hcd v (WK hv)
     have htj:dO max Hv (max Q X) (dv.take (j+1))=max (dO max Hv (max Q X) (dv.take j)) (Hv v):=by rw[aK hv,eW]
     generalize Hv v=V at *
     obtain⟨v1,v2,v3,v4,v5,v6⟩:=v
     simp only[WD] at hv' hcv
     simp(disch:=try exact dI) only[hx',hjlI,hv',ap,push_cast,seval]
     refine ae.pure hcv rfl ?_
     refine zgZ ?_
     exact⟨j+1,bl (by simp(disch:=try exact dI) only[htj,push_cast,seval]),by omega,by omega⟩
    ·have hjlI:¬ (j:Int)<(dv.length:Int):=by omega
     obtain rfl:j=dv.length:=by omega
     rw[WV,<- hts]
     simp(disch:=try exact dI) only[hx',hjlI,ap,push_cast,seval]
     exact⟨i+1,bl qsZ,by omega,by omega⟩
   have hltI:¬ (i:Int)<(f.length:Int):=by omega
   obtain rfl:i=f.length:=by omega
   rw[WV]
   simp(disch:=try exact dI) only[hltI,push_cast,seval]
theorem KX:∀ (n:Nat) (t:Typ),bN n t->am Tryz.prog aC 29 [t.pv] (.int .i64 (sTW n t))
 | 0,_,h=>h.elim
 | n+1,.mk k m M s w e f,h=>by
   have ih:=KX n
   simp only[bN] at h
   obtain⟨hw,hel,hfl,he,hf⟩:=h
   have h1:∀ x∈e,am Tryz.prog aC 29 [x.pv] (.int .i64 (sTW n x)):=fun x hx=>ih x (he x hx)
   have h2:∀ x∈f,am Tryz.prog aC 29 [x.typ.pv] (.int .i64 (sTW n x.typ)):=fun x hx=>ih x.typ (hf x hx).2.2
   have h3:∀ x∈f,x.dflt.length<=9000000000000/\∀ v∈x.dflt,am Tryz.prog aC 35 [v.pv] (.int .i64 (lV (lvl v) v)):=fun x hx=>⟨by have:=(hf x hx).1;omega,fun v hv=>Cf (lvl v) v (iC v) ((hf x hx).2.1 v hv)⟩
   rw[sTW]
   simp only[Typ.elem,Typ.fields,Typ.words]
   clear ih he hf
   generalize sTW n=G at *
   generalize hH:(fun v=>lV (lvl v) v)=Hv at *
   have hH':∀ v,lV (lvl v) v=Hv v:=fun v=>congrFun hH v
   simp only[hH'] at h3
   clear hH hH'
   refine am.intro Q29.2 (by simp[Q29]) ?_
   simp(disch:=try exact dI) only[Q29,WB,push_cast,seval]
   refine aG ([]) (fun i:Nat=>[(3,.pv (.int .i64 (dO yd G (1+(w.length:Int)) (e.take i)))),(4,.pv (.int .i64 (i:Int)))]) (fun _=>[]) (fun i=>i<=e.length) (fun i=>e.length - i) (0) ?_;intro e0 σ0 n0 h0;simp(disch:=try exact dI) only[push_cast,seval] at h0;obtain⟨rfl,rfl,rfl⟩:=h0;refine⟨?_,?_,?_⟩
   ·refine zgZ ?_
    exact .refl _
   ·exact Xr _
   rintro i hi
   by_cases hlt:i<e.length
   ·have hltI:(i:Int)<(e.length:Int):=by omega
    obtain⟨x,hx⟩:∃ x,e[i]? = some x:=⟨_,WE hlt⟩
    have hx':(e.map Typ.pv)[i]? = some x.pv:=by simp[hx]
    have hc:=h1 x (WK hx)
    have hts:dO yd G (1+(w.length:Int)) (e.take (i+1))=IntKind.i64.wrap (dO yd G (1+(w.length:Int)) (e.take i)+G x):=by rw[aK hx,eW];rfl
    generalize G x=X at *
    obtain⟨x1,x2,x3,x4,x5,x6,x7⟩:=x
    simp only[WB] at hx' hc
    simp(disch:=try exact dI) only[hltI,hx',ap,push_cast,seval]
    refine ae.pure hc rfl ?_
    refine zgZ ?_
    exact⟨i+1,bl (by simp(disch:=try exact dI) only[hts,push_cast,seval]),by omega,by omega⟩
   have hltI:¬ (i:Int)<(e.length:Int):=by omega
   obtain rfl:i=e.length:=by omega
   rw[WV]
   generalize dO yd G (1+(w.length:Int)) e=D at *
   simp(disch:=try exact dI) only[hltI,push_cast,seval]
   refine aG ([]) (fun i:Nat=>[(3,.pv (.int .i64 (jo yd G Hv D (f.take i)))),(5,.pv (.int .i64 (i:Int)))]) (fun _=>[]) (fun i=>i<=f.length) (fun i=>f.length - i) (0) ?_;intro e0 σ0 n0 h0;simp(disch:=try exact dI) only[push_cast,seval] at h0;obtain⟨rfl,rfl,rfl⟩:=h0;refine⟨?_,?_,?_⟩
   ·refine zgZ ?_
    exact .refl _
   ·exact Xr _
   rintro i hi
   by_cases hlt:i<f.length
   ·have hltI:(i:Int)<(f.length:Int):=by omega
    obtain⟨x,hx⟩:∃ x,f[i]? = some x:=⟨_,WE hlt⟩
    have hx':(f.map TFd.pv)[i]? = some x.pv:=by simp[hx]
    have hc:=h2 x (WK hx)
    obtain⟨hdl,hcd⟩:=h3 x (WK hx)
    have hts:jo yd G Hv D (f.take (i+1))=dO yd Hv (IntKind.i64.wrap (jo yd G Hv D (f.take i)+G x.typ)) x.dflt:=by rw[aK hx,j9];rfl
    generalize jo yd G Hv D (f.take i)=Q at *
    obtain⟨u1,u2,u3,⟨x1,x2,x3,x4,x5,x6,x7⟩,dv⟩:=x
    simp only[TFd.typ,TFd.dflt] at hc hdl hcd hts
    generalize G (.mk x1 x2 x3 x4 x5 x6 x7)=X at *
    simp only[Wt,WB,ap] at hx' hc
    simp(disch:=try exact dI) only[hltI,hx',ap,push_cast,seval]
    refine ae.pure hc rfl ?_
    refine zgZ ?_
    refine aG ([]) (fun j:Nat=>[(3,.pv (.int .i64 (dO yd Hv (IntKind.i64.wrap (Q+X)) (dv.take j)))),(6,.pv (.int .i64 (j:Int)))]) (fun _=>[]) (fun j=>j<=dv.length) (fun j=>dv.length - j) (0) ?_;intro e0 σ0 n0 h0;simp(disch:=try exact dI) only[push_cast,seval] at h0;obtain⟨rfl,rfl,rfl⟩:=h0;refine⟨?_,?_,?_⟩
    ·refine zgZ ?_
     exact .refl _
    ·exact Xr _
    rintro j hj
    by_cases hjl:j<dv.length
    ·have hjlI:(j:Int)<(dv.length:Int):=by omega
     obtain⟨v,hv⟩:∃ v,dv[j]? = some v:=⟨_,WE hjl⟩
     have hv':(dv.map Val.pv)[j]? = some v.pv:=by simp[hv]
     have hcv:=hcd v (WK hv)
     have htj:dO yd Hv (IntKind.i64.wrap (Q+X)) (dv.take (j+1))=IntKind.i64.wrap (dO yd Hv (IntKind.i64.wrap (Q+X)) (dv.take j)+Hv v):=by rw[aK hv,eW];rfl
     generalize Hv v=V at *
     obtain⟨v1,v2,v3,v4,v5,v6⟩:=v
     simp only[WD] at hv' hcv
     simp(disch:=try exact dI) only[hx',hjlI,hv',ap,push_cast,seval]
     refine ae.pure hcv rfl ?_
     refine zgZ ?_
     exact⟨j+1,bl (by simp(disch:=try exact dI) only[htj,push_cast,seval]),by omega,by omega⟩
    ·have hjlI:¬ (j:Int)<(dv.length:Int):=by omega
     obtain rfl:j=dv.length:=by omega
     rw[WV,<- hts]
     simp(disch:=try exact dI) only[hx',hjlI,ap,push_cast,seval]
     exact⟨i+1,bl qsZ,by omega,by omega⟩
   have hltI:¬ (i:Int)<(f.length:Int):=by omega
   obtain rfl:i=f.length:=by omega
   rw[WV]
   simp(disch:=try exact dI) only[hltI,push_cast,seval]
section
variable {T:Nat}{p:PV}
theorem D8 (R:Rd)(d:Nat)(h0:¬ R.e=0):aP Tryz.prog (ci T p) 1 56 [.ptr 0 0,.pv (.int .i64 (d:Int))] [rdB R] (.pv bX.pv) [rdB R]:=by
 simp only[rdB,rdC,bX,WB]
 refine aP.intro Q56.2 (by simp[Q56]) ?_
 simp(disch:=try exact dI) only[Q56,h0,push_cast,seval]
 exact au [] qsZ
theorem wZ (R:Rd)(d:Nat)(h0:R.e=0)(hk:¬ R.now.kind=1):aP Tryz.prog (ci T p) 1 56 [.ptr 0 0,.pv (.int .i64 (d:Int))] [rdB R] (.pv bX.pv) [rdB (ba R R.now.pos 13)]:=by
 have hf:=cD (T:=T) (p:=p) R R.now.pos 13
 have h0I:(R.e=0)=True:=eq_true h0
 simp only[rdB,rdC,bX,WB] at hf ⊢
 refine aP.intro Q56.2 (by simp[Q56]) ?_
 simp(disch:=try exact dI) only[Q56,h0I,hk,push_cast,seval]
 refine ae.lentK hf [0] rfl qsZ qsZ ?_
 refine zgZ ?_
 exact au [] qsZ
theorem D9 (R:Rd)(h0:R.e=0)(hk:R.now.kind=1):aP Tryz.prog (ci T p) 1 56 [.ptr 0 0,.pv (.int .i64 8)] [rdB R] (.pv bX.pv) [rdB (ba R R.now.pos 23)]:=by
 have hf:=cD (T:=T) (p:=p) R R.now.pos 23
 have h0I:(R.e=0)=True:=eq_true h0
 have hkI:(R.now.kind=1)=True:=eq_true hk
 simp only[rdB,rdC,bX,WB] at hf ⊢
 refine aP.intro Q56.2 (by simp[Q56]) ?_
 simp(disch:=try exact dI) only[Q56,h0I,hkI,push_cast,seval]
 refine ae.lentK hf [0] rfl qsZ qsZ ?_
 refine zgZ ?_
 exact au [] qsZ
theorem Of (R:Rd)(d:Nat)(hd:d<8)(hR:OkR R)(hT:OkT R)(h0:R.e=0)(hk:R.now.kind=1)(hw:bH R.now.text=0):aP Tryz.prog (ci T p) 1 56 [.ptr 0 0,.pv (.int .i64 (d:Int))] [rdB R] (.pv bX.pv) [rdB (ba (bi R) R.now.pos 13)]:=by
 have h0I:(R.e=0)=True:=eq_true h0
 have hkI:(R.now.kind=1)=True:=eq_true hk
 have hdI:¬ (8:Int)<=(d:Int):=by omega
 have hadv:=bL (T:=T) (p:=p) R hR
 have hfind:=toE (T:=T) (p:=p) (gE R.now.text)
 have hst:=(bq hR hT).1
 have hf:=cD (T:=T) (p:=p) (bi R) R.now.pos 13
 rw[hw,if_pos rfl] at hfind
 clear hst hR hT
 generalize bi R=R1 at *
 simp only[rdB,rdC,tkP,bX,WB] at hadv hf ⊢
 refine aP.intro Q56.2 (by simp[Q56]) ?_
 simp(disch:=try exact dI) only[Q56,h0I,hkI,hdI,push_cast,seval]
 refine ae.lentK hadv [0] rfl qsZ qsZ ?_
 refine zgZ ?_
 refine ae.pure hfind rfl ?_
 refine zgZ ?_
 refine ae.lentK hf [0] rfl qsZ qsZ ?_
 refine zgZ ?_
 exact au [] qsZ
theorem Ea (R:Rd)(d:Nat)(hd:d<8)(hR:OkR R)(hT:OkT R)(h0:R.e=0)(hk:R.now.kind=1)(hw:bH R.now.text=1):aP Tryz.prog (ci T p) 1 56 [.ptr 0 0,.pv (.int .i64 (d:Int))] [rdB R] (.pv (Typ.mk 1 0 0 0 [] [] []).pv) [rdB (bi R)]:=by
 have h0I:(R.e=0)=True:=eq_true h0
 have hkI:(R.now.kind=1)=True:=eq_true hk
 have hdI:¬ (8:Int)<=(d:Int):=by omega
 have hadv:=bL (T:=T) (p:=p) R hR
 have hfind:=toE (T:=T) (p:=p) (gE R.now.text)
 have hst:=(bq hR hT).1
 rw[hw,if_neg (by decide)] at hfind
 clear hst hR hT
 generalize bi R=R1 at *
 simp only[rdB,rdC,tkP,WB] at hadv ⊢
 refine aP.intro Q56.2 (by simp[Q56]) ?_
 simp(disch:=try exact dI) only[Q56,h0I,hkI,hdI,push_cast,seval]
 refine ae.lentK hadv [0] rfl qsZ qsZ ?_
 refine zgZ ?_
 refine ae.pure hfind rfl ?_
 refine zgZ ?_
 exact au [] qsZ
end
