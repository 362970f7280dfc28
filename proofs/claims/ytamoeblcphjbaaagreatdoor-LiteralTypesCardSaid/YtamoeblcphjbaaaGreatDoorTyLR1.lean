/- A part. -/
import Derived.RangeFuncBound
import Derived.RangeFuncCalls
import Derived.Shelf.Abstract
import Derived.Shelf.RegionOpen
import Derived.WalkKit
import Derived.OwnWalkIn
import Derived.TacticsInMore
import Derived.LoopIn
import Derived.LoopNIn
import Derived.Test.YtamoeblcphjbaaaGreatDoorTyLC8
set_option linter.unusedVariables false
set_option linter.unusedSimpArgs false
set_option maxHeartbeats 16000000
set_option maxRecDepth 100000
open List renaming getElem?_eq_getElem->WE,mem_of_getElem?->WK,getElem?_eq_some_iff->WH,size_toArray->XQ,length_cons->WG,length_nil->WL,nil_append->WO,cons_append->WQ
open Array renaming getD_eq_getD_getElem?->WM,getElem?_eq_some_iff->WU
open Nat renaming le_refl->WX,lt_of_lt_of_le->W0
namespace Go.Proofs.YtamoeblcphjbaaaGreatDoor
open Go Go.Ab Go.RowKit Go.Shelf
attribute [local irreducible] vc
attribute [local go_sem] Oper.semAt_some
def bF:Nat->Int->Val->List (Int×Val)
 | 0,_,_=>[]
 | n+1,lv,v=>(lv,v)::(bu v).flatMap (bF n (wrap64 (lv+1)))
def ia:Nat->Val->Prop
 | 0,_=>False
 | n+1,v=>∀ x∈bu v,ia n x
def Bh (q:Int×Val):List PV:=[.int .i64 q.1,q.2.pv]
structure Kept (kp O':Nat->Nat->Prop)(W W':World):Prop where
 size:W.heap.size<=W'.heap.size
 out:∀ b o,kp b o->¬ O' b o
 cell:∀ b o v,kp b o->W.cell? ⟨b,o,none⟩=some v->W'.cell? ⟨b,o,none⟩=some v
theorem BG {W:World}{imm:Nat->Nat->Prop}{v:Val}{u:Value}(h:PRel W imm v.pv u):∃ u0 u1 u2 u3 u4 u5,u = .agg #[u0,u1,u2,u3,u4,u5]/\u0.oneCell'=true/\u1.oneCell'=true/\u2.oneCell'=true/\u3.oneCell'=true/\u4.oneCell'=true/\u5.oneCell'=true:=by
 obtain⟨cs,h1,h2,h3⟩:=v.row
 rw[h1] at h
 cases h with
 | agg _ vs hl hr=>
   have hs:vs.size=6:=by omega
   have h1c:∀ j,j<6->(vs.getD j Go.undef).oneCell'=true:=fun j hj=>by
    obtain⟨x,hx⟩:∃ x,cs[j]? = some x:=⟨_,WE (by omega)⟩
    have hone:=h3 x (WK hx)
    exact (ARel.oneCell (κ:=⟨W,fun _=>none,imm⟩) (x:=.pv x) hone (.pv _ _ (hr j x hx)))
   refine⟨_,_,_,_,_,_,?_,h1c 0 (by omega),h1c 1 (by omega),h1c 2 (by omega),h1c 3 (by omega),h1c 4 (by omega),h1c 5 (by omega)⟩
   congr 1
   apply Array.ext
   ·simp[hs]
   ·intro j hj _
    simp only[WM]
    have:j=0\/j=1\/j=2\/j=3\/j=4\/j=5:=by omega
    rcases this with rfl | rfl | rfl | rfl | rfl | rfl<;>simp[hs]
theorem wp (n:Nat)(lv:Int)(v:Val):(bF (n+1) lv v).length=1+((bu v).flatMap (bF n (wrap64 (lv+1)))).length:=by simp[bF];omega
theorem Iq {v x:Val}(hv:v.ok)(hx:x∈bu v):x.ok:=by
 obtain⟨k,a,b,t,l,f⟩:=v
 rw[WC] at hv
 obtain⟨_,_,_,_,_,h1,_,h2⟩:=hv
 unfold bu at hx
 split at hx
 ·exact h1 x hx
 ·split at hx
  ·simp only[Val.fields,List.mem_map] at hx
   obtain⟨q,hq,rfl⟩:=hx
   have:=h2 q hq
   obtain⟨nm,w⟩:=q
   rw[Wp] at this
   exact this.2
  ·simp at hx
section
variable (l:Nat)(xs:List (List PV))(base:Nat->Nat->Prop)(n0:Nat)(J:Nat->(Nat->Nat->Prop)->World->Prop)(Jx:World->Prop)
theorem tz {W:World}{imm:Nat->Nat->Prop}{L:List Val}{u:Value}(h:PRel W imm (.list (L.map Val.pv)) u):(L=[]/\∃ A c,u = .slice A 0 c) \/
  (L≠[]/\∃ (b off c:Nat) (g:Nat->Nat->Value),u = .slice (some ⟨b,off,none⟩) L.length c/\L.length<=c/\c<=maxLen/\∀ (k:Nat) (x:Val),L[k]? = some x->(∀ j,j<6->imm b (off+k*6+j)/\W.cell? ⟨b,off+k*6+j,none⟩=some (g k j)/\(g k j).oneCell'=true) /\
   PRel W imm x.pv (.agg #[g k 0,g k 1,g k 2,g k 3,g k 4,g k 5])):=by
 generalize hl:L.map Val.pv=l at h
 cases h with
 | lnil A c hc=>exact .inl ⟨by simpa using hl,A,c,rfl⟩
 | list _ b off c sz g h1 h2 h3 h4 h5=>
   subst hl
   cases L with
   | nil=>exact .inl ⟨rfl,some ⟨b,off,none⟩,c,rfl⟩
   | cons x0 r=>
   refine .inr ⟨by simp,b,off,c,g,by simp,by simpa using h1,h2,fun k x hx=>?_⟩
   have hx':((x0::r).map Val.pv)[k]? = some x.pv:=by simp only[List.getElem?_map,hx,Option.map_some]
   have hsz:sz=6:=by rw[<- h3 k _ hx',x.cells_len]
   subst hsz
   obtain⟨cs,e1,e2,e3⟩:=x.row
   have hcs:x.pv.cells=cs:=by rw[e1];rfl
   refine⟨fun j hj=>?_,?_⟩
   ·obtain⟨y,hy⟩:∃ y,cs[j]? = some y:=⟨_,WE (by omega)⟩
    exact h4 k _ j y hx' (by rw[hcs];exact hy)
   ·rw[e1]
    refine .agg _ _ (by simp[e2]) fun j y hy=>?_
    have hj:j<6:=by have:=(WH.1 hy).1;omega
    have:=h5 k _ j y hx' (by rw[hcs];exact hy)
    have hc:j=0\/j=1\/j=2\/j=3\/j=4\/j=5:=by omega
    rcases hc with rfl | rfl | rfl | rfl | rfl | rfl<;>exact this
def sV (W:World):Prop:=∀ g,aC g≠[]->∃ cs T fz,W.heap[g]? = some (.cells cs T fz)/\cs.size=(aC g).length
structure Iter:Prop where
 grow:∀ i O W W',J i O W->Below W.heap.size W W'->J i O W'
 lt:∀ i O W b o,J i O W->O b o->b<W.heap.size
 round:∀ (m i:Nat) (x:List PV) (O:Nat->Nat->Prop) (W:World) (vals:Array Value) (imm' kp:Nat->Nat->Prop),J i O W->xs[i]? = some x->vals.size=x.length ->
   (∀ (j:Nat) (y:PV),x[j]? = some y->PRel W imm' y (vals.getD j Go.undef))->(∀ b o,imm' b o->base b o\/n0<=b)->(∀ b o,imm' b o->kp b o)->(∀ b o,kp b o->b<W.heap.size/\¬ O b o) ->
   YieldAt Fence.wide m Tryz.prog l vals W fun e W'=>
    (e = .returned (.bool true)/\(∃ O',J (i+1) O' W'/\∀ b o,kp b o->¬ O' b o)/\W.heap.size<=W'.heap.size/\(∀ b o v,kp b o->W.cell? ⟨b,o,none⟩=some v->W'.cell? ⟨b,o,none⟩=some v)/\sV W') \/
    (e = .returned (.bool false)/\Jx W')
variable {l xs base n0 J Jx}
theorem mP {imm kp O':Nat->Nat->Prop}{W W':World}(h:dd aC W imm)(hi:∀ b o,imm b o->kp b o)(hk:Kept kp O' W W')(hg:sV W'):dd aC W' imm:=by
 refine⟨fun g o p hp=>?_,hg⟩
 obtain⟨h1,v,h2,h3,h4⟩:=h.1 g o p hp
 exact⟨h1,v,hk.cell _ _ _ (hi _ _ h1) h2,h3,h4.mono (fun _ _ h=>h) (fun b o v hb hv=>hk.cell b o v (hi _ _ hb) hv)⟩
theorem Kept.trans {kp O1 O2:Nat->Nat->Prop}{A B C:World}(h:Kept kp O1 A B)(k:Kept kp O2 B C):Kept kp O2 A C:=
 ⟨Nat.le_trans h.size k.size,k.out,fun b o v hb hv=>k.cell b o v hb (h.cell b o v hb hv)⟩
theorem Kept.less {kp kp' O1:Nat->Nat->Prop}{A B:World}(h:Kept kp O1 A B)(hk:∀ b o,kp' b o->kp b o):Kept kp' O1 A B:=
 ⟨h.size,fun b o hb=>h.out b o (hk b o hb),fun b o v hb hv=>h.cell b o v (hk b o hb) hv⟩
theorem Kept.below {kp O1:Nat->Nat->Prop}{A B:World}(h:Below A.heap.size A B)(ho:∀ b o,kp b o->¬ O1 b o):Kept kp O1 A B:=
 ⟨h.size,ho,fun b o v _ hv=>(World.cell?_of_block (a:=⟨b,o,none⟩) (h.block b (World.block_lt_of_cell? A _ hv))).trans hv⟩
def V7 (kp:Nat->Nat->Prop)(i:Nat)(W:World)(e:Ending)(W':World):Prop:=
 (e = .returned (.bool true)/\∃ O',J i O' W'/\Kept kp O' W W'/\sV W')\/(e = .returned (.bool false)/\Jx W')
theorem Iter.went (h:Iter l xs base n0 J Jx)(m:Nat){i:Nat}{q:Int×Val}{O imm kp:Nat->Nat->Prop}{W:World}{u:Value}(hJ:J i O W)(hx:xs[i]? = some (Bh q))(hu:PRel W imm q.2.pv u)(hb:∀ b o,imm b o->base b o\/n0<=b)(hi:∀ b o,imm b o->kp b o)(hk:∀ b o,kp b o->b<W.heap.size/\¬ O b o) :
  YieldAt Fence.wide m Tryz.prog l #[.int .i64 q.1,u] W (V7 (J:=J) (Jx:=Jx) kp (i+1) W):=by
 obtain⟨fn,tmps,assign,body,hy,hR⟩:=h.round m i _ O W #[.int .i64 q.1,u] imm kp hJ hx rfl (fun j y hy=>by
  match j,hy with
  | 0,hy=>simp[Bh] at hy;subst hy;exact .int _ _
  | 1,hy=>simp[Bh] at hy;subst hy;exact hu
  | j+2,hy=>simp[Bh] at hy) hb hi hk
 refine⟨fn,tmps,assign,body,hy,hR.mono ?_⟩
 rintro e W' (⟨rfl,⟨O',h1,h2⟩,h3,h4,h5⟩ | ⟨rfl,h1⟩)
 ·exact .inl ⟨rfl,O',h1,⟨h3,h2,h4⟩,h5⟩
 ·exact .inr ⟨rfl,h1⟩
theorem OC {α β:Type}(f:α->List β){L:List α}{k:Nat}{x:α}(hx:L[k]? = some x){j:Nat}{q:β}(hq:(f x)[j]? = some q):(L.flatMap f)[((L.take k).flatMap f).length+j]? = some q:=by
 have hk:k<L.length:=(WH.1 hx).1
 have hxe:L[k]=x:=(WH.1 hx).2
 have hj:j<(f x).length:=(WH.1 hq).1
 have e:L=L.take k++(x::L.drop (k+1)):=by rw[<- hxe,<- List.drop_eq_getElem_cons hk,List.take_append_drop]
 have e2:L.flatMap f=(L.take k).flatMap f++(f x++(L.drop (k+1)).flatMap f):=by
  conv=>lhs;rw[e]
  simp[List.flatMap_append]
 rw[e2,List.getElem?_append_right (by omega),Nat.add_sub_cancel_left,List.getElem?_append_left hj]
 exact hq
theorem EU {α β:Type}(f:α->List β){L:List α}{k:Nat}{x:α}(hx:L[k]? = some x):((L.take (k+1)).flatMap f).length=((L.take k).flatMap f).length+(f x).length:=by
 rw[aK hx];simp[List.flatMap_append]
theorem oN {A B:World}(h:Below A.heap.size A B){b o:Nat}{v:Value}(hv:A.cell? ⟨b,o,none⟩=some v):B.cell? ⟨b,o,none⟩=some v:=
 (World.cell?_of_block (a:=⟨b,o,none⟩) (h.block b (World.block_lt_of_cell? A _ hv))).trans hv
theorem mO {A B:World}(h:Below A.heap.size A B)(hg:sV A):sV B:=fun g hx=>by
 obtain⟨cs,T,fz,q1,q2⟩:=hg g hx
 exact⟨cs,T,fz,(h.block g (WU.1 q1).1).trans q1,q2⟩
def Pu (l:Nat)(xs:List (List PV))(base:Nat->Nat->Prop)(n0:Nat)(J:Nat->(Nat->Nat->Prop)->World->Prop)(Jx:World->Prop)(n:Nat):Prop:=
 ∀ (v:Val),ia n v->v.ok->∀ (lv:Int) (i0 m:Nat) (O imm kp:Nat->Nat->Prop) (W:World) (u:Value),
   (∀ j q,(bF n lv v)[j]? = some q->xs[i0+j]? = some (Bh q))->J i0 O W->PRel W imm v.pv u->dd aC W imm->(∀ b o,imm b o->base b o\/n0<=b)->(∀ b o,imm b o->kp b o)->(∀ b o,kp b o->b<W.heap.size/\¬ O b o)->n0<=W.heap.size ->
   CallsIn Fence.wide m Tryz.prog 85 #[u,.int .i64 lv,.func (.yield l) #[] #[]] W (V7 (J:=J) (Jx:=Jx) kp (i0+(bF n lv v).length) W)
theorem yx (h:Iter l xs base n0 J Jx)(n:Nat)(ih:Pu l xs base n0 J Jx n):Pu l xs base n0 J Jx (n+1):=by
 intro v hd hvo lv i0 m O imm kp W u hxs hJ hu hG hbase hik hkO hn0
 obtain⟨u0,u1,u2,u3,u4,u5,hue,o0,o1,o2,o3,o4,o5⟩:=BG hu
 let W1:=W.alloc (.cells #[u0,u1,u2,u3,u4,u5] 25)
 have b1:Below W.heap.size W W1:=(Below.refl _ W).alloc (WX _) _
 let kp1:Nat->Nat->Prop:=fun b o=>kp b o\/b=W.heap.size
 have hJ1:J i0 O W1:=h.grow _ _ _ _ hJ b1
 have hu1:PRel W1 imm v.pv u:=hu.mono (fun _ _ h=>h) (fun b o v _ hv=>(World.cell?_of_block (a:=⟨b,o,none⟩) (b1.block b (World.block_lt_of_cell? W _ hv))).trans hv)
 have hO:∀ o,¬ O W.heap.size o:=fun o ho=>by have:=h.lt _ _ _ _ _ hJ ho;omega
 have hy:=h.went (m - 1) (q:=(lv,v)) (kp:=kp1) hJ1 (by simpa[bF] using hxs 0 (lv,v) (by simp[bF])) hu1 hbase (fun b o hi=>.inl (hik b o hi)) (fun b o hk=>by
  rcases hk with hk | rfl
  ·exact⟨W0 (hkO b o hk).1 b1.size,(hkO b o hk).2⟩
  ·exact⟨by simp[W1],hO o⟩)
 obtain⟨fn,tmps,assign,body,hy,hR⟩:=hy
 rw[hue] at hy
 simp only[W1] at hy hR
 have hnext:∀ W2 O2,J (i0+1) O2 W2->Kept kp1 O2 W1 W2->sV W2->True:=fun _ _ _ _ _=>trivial
 subst hue
 refine callsIn_of_wp Tryz.func85 rfl trivial ?_ rfl
 simp only[Tryz.ntmps85,XQ,WG,WL,Nat.reduceAdd,Nat.reduceSub,Array.replicate_succ,Array.replicate_zero,List.push_toArray,List.append_toArray,WO,WQ]
 gi_wp2
 refine⟨fun h=>(by cases h),hR.mono ?_⟩
 rintro e W2 (⟨rfl,O2,hJ2,hK2,hG2⟩ | ⟨rfl,hx2⟩)
 ·have c0:∀ j x,W1.cell? ⟨W.heap.size,j,none⟩=some x->W2.cell? ⟨W.heap.size,j,none⟩=some x:=fun j x hx=>hK2.cell _ _ _ (.inr rfl) hx
  have d0:=c0 0 u0 (by simp[W1]);have d1:=c0 1 u1 (by simp[W1]);have d2:=c0 2 u2 (by simp[W1]);have d3:=c0 3 u3 (by simp[W1]);have d4:=c0 4 u4 (by simp[W1]);have d5:=c0 5 u5 (by simp[W1])
  clear c0
  have hK0:Kept kp O2 W W2:=(Kept.below b1 (fun b o hb=>hK2.out b o (.inl hb))).trans (hK2.less fun b o hb=>.inl hb)
  have hu2:PRel W2 imm v.pv (.agg #[u0,u1,u2,u3,u4,u5]):=hu.mono (fun _ _ h=>h) (fun b o v hi hv=>hK0.cell b o v (hik b o hi) hv)
  have hGl2:=mP hG hik hK0 hG2
  have hpc:=(callsIn_wide (n:=m - 1)).2 ((Ir v (by obtain⟨k',n',s',t',l',f'⟩:=v;rw[WC] at hvo;exact hvo.2.2.2.2.2.2.1)).2 W2 imm #[.agg #[u0,u1,u2,u3,u4,u5]] hGl2 (fun b o hi=>W0 (hkO b o (hik b o hi)).1 hK0.size) rfl (fun i x hx=>by
   cases i with
   | zero=>simp at hx;subst hx;exact hu2
   | succ i=>simp at hx))
  clear hR hy hu1 hu
  gi_wp2_with (refine⟨trivial,fun h=>(by cases h),?_⟩;gi_at_call 149;refine hpc.mono ?_;clear hpc;rintro e W3 ⟨s3,imm3,rfl,hB3,hi1,hi2,hi3,hr3⟩;rcases tz hr3 with ⟨hL,A,cc,rfl⟩ | ⟨hL,b,off,cc,g,rfl,hc1,hc2,hel⟩)
  ·have hKf:Kept kp O2 W W3:=hK0.trans (Kept.below hB3 (fun b o hb=>hK2.out b o (.inl hb)))
   have hJ3:J (i0+1) O2 W3:=h.grow _ _ _ _ hJ2 hB3
   have hG3:=mO hB3 hG2
   gi_loopw [17] (fun p wr=>p = .int .i64 0/\wr=W3) (fun p wr=>0)
   case atStart=>exact⟨rfl,rfl⟩
   case round=>
    obtain⟨rfl,rfl⟩:=hrel
    gi_wp2
    refine bodyPost_ret (results_tmp rfl _ _ _) rfl ?_
    exact .inl ⟨rfl,O2,by rw[wp,hL];simpa using hJ3,hKf,hG3⟩
  ·generalize hLd:bu v=L at hr3 hL hel hc1 ⊢
   let kp3:Nat->Nat->Prop:=fun b o=>kp b o\/imm3 b o
   have hJ3:J (i0+1) O2 W3:=h.grow _ _ _ _ hJ2 hB3
   have hout3:∀ b o,kp3 b o->¬ O2 b o:=by
    rintro b o (hb | hb)
    ·exact hK2.out b o (.inl hb)
    ·rcases hi2 b o hb with hb | hb
     ·exact hK2.out b o (.inl (hik b o hb))
     ·intro ho;have:=h.lt _ _ _ _ _ hJ2 ho;omega
   have hG3:sV W3:=fun g hg=>by
    obtain⟨cs,T,fz,q1,q2⟩:=hG2 g hg
    exact⟨cs,T,fz,(hB3.block g (WU.1 q1).1).trans q1,q2⟩
   gi_loopw [17] (fun p wr=>∃ (k:Nat) (O':Nat->Nat->Prop),p = .int .i64 (k:Int)/\k<=L.length/\J (i0+1+((L.take k).flatMap (bF n (wrap64 (lv+1)))).length) O' wr/\Kept kp3 O' W3 wr/\sV wr) (fun p wr=>L.length - (intOf p).toNat)
   case atStart=>exact⟨0,O2,rfl,Nat.zero_le _,by simpa using hJ3,⟨WX _,hout3,fun _ _ _ _ h=>h⟩,hG3⟩
   case round=>
    obtain⟨k,O',rfl,hk,hJk,hKk,hGk⟩:=hrel
    by_cases hlt:k<L.length
    ·obtain⟨x,hx⟩:∃ x,L[k]? = some x:=⟨_,WE hlt⟩
     obtain⟨hg,hrx⟩:=hel k x hx
     have w0:=hKk.cell _ _ _ (.inr (hg 0 (by omega)).1) (hg 0 (by omega)).2.1
     have w1:=hKk.cell _ _ _ (.inr (hg 1 (by omega)).1) (hg 1 (by omega)).2.1
     have w2:=hKk.cell _ _ _ (.inr (hg 2 (by omega)).1) (hg 2 (by omega)).2.1
     have w3:=hKk.cell _ _ _ (.inr (hg 3 (by omega)).1) (hg 3 (by omega)).2.1
     have w4:=hKk.cell _ _ _ (.inr (hg 4 (by omega)).1) (hg 4 (by omega)).2.1
     have w5:=hKk.cell _ _ _ (.inr (hg 5 (by omega)).1) (hg 5 (by omega)).2.1
     have s0:=fun (a:Addr) (w:World)=>run_store Tryz.prog w a (g k 0) .plain (hg 0 (by omega)).2.2
     have s1:=fun (a:Addr) (w:World)=>run_store Tryz.prog w a (g k 1) .plain (hg 1 (by omega)).2.2
     have s2:=fun (a:Addr) (w:World)=>run_store Tryz.prog w a (g k 2) .plain (hg 2 (by omega)).2.2
     have s3:=fun (a:Addr) (w:World)=>run_store Tryz.prog w a (g k 3) .plain (hg 3 (by omega)).2.2
     have s4:=fun (a:Addr) (w:World)=>run_store Tryz.prog w a (g k 4) .plain (hg 4 (by omega)).2.2
     have s5:=fun (a:Addr) (w:World)=>run_store Tryz.prog w a (g k 5) .plain (hg 5 (by omega)).2.2
     have hlI:(k:Int)<(L.length:Int):=by omega
     have hk0:(0:Int)<=(k:Int):=by omega
     simp only[Nat.add_zero] at w0
     clear hg
     let W5:=wr.alloc (.cells #[g k 0,g k 1,g k 2,g k 3,g k 4,g k 5] 25)
     have b5:Below wr.heap.size wr W5:=(Below.refl _ wr).alloc (WX _) _
     have s3r:W3.heap.size<=wr.heap.size:=hKk.size
     have hgl3:dd aC W3 imm3:=⟨fun g o p hp=>by
      obtain⟨q1,v,q2,q3,q4⟩:=hGl2.1 g o p hp
      exact⟨hi1 _ _ q1,v,oN hB3 q2,q3,q4.mono hi1 (fun b o v _ hv=>oN hB3 hv)⟩,hG3⟩
     have hK5:Kept kp3 O' W3 W5:=hKk.trans (Kept.below b5 hKk.out)
     have hsub:∀ b o,imm3 b o->kp3 b o:=fun b o h=>.inr h
     have ihx:=ih x (hd x (by rw[hLd];exact WK hx)) (Iq hvo (by rw[hLd];exact WK hx)) (wrap64 (lv+1)) (i0+1+((L.take k).flatMap (bF n (wrap64 (lv+1)))).length) (m - 1) O' imm3 kp3 W5 (.agg #[g k 0,g k 1,g k 2,g k 3,g k 4,g k 5])
      (fun j q hq=>by
       have:=hxs (1+(((L.take k).flatMap (bF n (wrap64 (lv+1)))).length+j)) q (by
        rw[bF,hLd,Nat.add_comm 1,List.getElem?_cons_succ]
        exact OC _ hx hq)
       rw[<- this];congr 1;omega) (h.grow _ _ _ _ hJk b5) (hrx.mono (fun _ _ h=>h) (fun b o v hi hv=>hK5.cell b o v (.inr hi) hv)) (mP hgl3 hsub hK5 (mO b5 hGk))
      (fun b o hi=>by
       rcases hi2 b o hi with hi | hi
       ·exact hbase b o hi
       ·have:=hK0.size;exact .inr (by omega)) hsub (fun b o hb=>⟨by
        have:=b5.size
        have:=hK0.size
        have:=hB3.size
        rcases hb with hb | hb
        ·have:=(hkO b o hb).1;omega
        ·have:=hi3 b o hb;omega,hKk.out b o hb⟩) (by have:=b5.size;have:=hK0.size;have:=hB3.size;omega)
     simp only[W5] at ihx
     have hkw:wrap64 ((k:Int)+1)=((k+1:Nat):Int):=by
      have hml:maxLen=9223372036854775807:=rfl
      unfold wrap64;omega
     have hft:=EU (bF n (wrap64 (lv+1))) hx
     have hidx:i0+1+((L.take (k+1)).flatMap (bF n (wrap64 (lv+1)))).length=i0+1+((L.take k).flatMap (bF n (wrap64 (lv+1)))).length+(bF n (wrap64 (lv+1)) x).length:=by rw[hft];omega
     clear hft
     have hmu:L.length - (intOf (.int .i64 (wrap64 ((k:Int)+1)))).toNat<L.length - (intOf (.int .i64 (k:Int))).toNat:=by
      rw[hkw]
      exact Nat.sub_lt_sub_left hlt (Nat.lt_succ_self k)
     gi_wp2_with (refine⟨trivial,fun h=>(by cases h),?_⟩;gi_at_call 85;refine ihx.mono ?_;clear ihx;rintro e W6 (⟨rfl,O6,hJ6,hK6,hG6⟩ | ⟨rfl,hx6⟩))
     ·rw[<- hidx] at hJ6
      have hJ7:=hJ6
      go_roundw
      case rel=>exact⟨k+1,O6,congrArg _ hkw,hlt,hJ7,hK5.trans hK6,hG6⟩
      case measure=>exact hmu
     ·refine bodyPost_ret (results_tmp rfl _ _ _) rfl ?_
      exact .inr ⟨rfl,hx6⟩
    ·have hke:k=L.length:=by omega
     subst hke
     have hKf:Kept kp O' W wr:=(hK0.trans (Kept.below hB3 (fun b o hb=>hout3 b o (.inl hb)))).trans (hKk.less fun b o hb=>.inl hb)
     gi_wp2
     refine bodyPost_ret (results_tmp rfl _ _ _) rfl ?_
     refine .inl ⟨rfl,O',?_,hKf,hGk⟩
     rw[wp,hLd,<- Nat.add_assoc]
     simpa using hJk
 ·gi_wp2
  go_ret
  exact .inr ⟨rfl,hx2⟩
end
attribute [local go_sem] Oper.semAt_some
theorem KK {l:Nat}{xs:List (List PV)}{base:Nat->Nat->Prop}{n0:Nat}{J:Nat->(Nat->Nat->Prop)->World->Prop}{Jx:World->Prop}(h:Iter l xs base n0 J Jx):∀ n,Pu l xs base n0 J Jx n
 | 0=>fun v hd=>hd.elim
 | n+1=>yx h n (KK h n)
theorem kx (n:Nat)(v:Val)(hd:ia n v)(hv:v.ok):U3 Tryz.prog aC 84 [.eptr [v.pv] 0 0] ((bF n 1 v).map Bh):=by
 refine⟨by kernel_rfl,fun w imm lbv l J Jx O hG himm hsz hlb hgrow hlt hround hJ=>?_⟩
 have hI:Iter l ((bF n 1 v).map Bh) imm w.heap.size J Jx:=⟨hgrow,hlt,hround⟩
 have hp:=hlb 0 _ rfl
 obtain⟨p,rfl⟩:∃ p,lbv = #[p]:=by
  obtain⟨l⟩:=lbv
  match l,hsz with
  | [p],_=>exact⟨p,rfl⟩
 simp only[WM,XQ,WG,WL] at hp
 replace hp:PRel w imm (.eptr [v.pv] 0 0) p:=by simpa using hp
 cases hp with
 | eptr _ b off cc sz g _ _ h1 h2 h3 h4 h5 h6=>
   have hs6:sz=6:=by rw[<- h3 0 _ rfl,v.cells_len]
   subst hs6
   obtain⟨cs,e1,e2,e3⟩:=v.row
   have hcs:v.pv.cells=cs:=by rw[e1];rfl
   have hel:∀ j,j<6->imm b (off+0*6+j)/\w.cell? ⟨b,off+0*6+j,none⟩=some (g 0 j)/\(g 0 j).oneCell'=true:=fun j hj=>by
    obtain⟨y,hy⟩:∃ y,cs[j]? = some y:=⟨_,WE (by omega)⟩
    exact h4 0 _ j y rfl (by rw[hcs];exact hy)
   have hu:PRel w imm v.pv (.agg #[g 0 0,g 0 1,g 0 2,g 0 3,g 0 4,g 0 5]):=by
    rw[e1]
    refine .agg _ _ (by simp[e2]) fun j y hy=>?_
    have hj:j<6:=by have:=(WH.1 hy).1;omega
    have:=h5 0 _ j y rfl (by rw[hcs];exact hy)
    have hc:j=0\/j=1\/j=2\/j=3\/j=4\/j=5:=by omega
    rcases hc with rfl | rfl | rfl | rfl | rfl | rfl<;>exact this
   have hvis:=KK hI n v hd hv 1 0 0 O imm imm w (.agg #[g 0 0,g 0 1,g 0 2,g 0 3,g 0 4,g 0 5]) (fun j q hq=>by simp[hq]) hJ hu hG (fun b o h=>.inl h) (fun b o h=>h) himm (WX _)
   have w0:=(hel 0 (by omega)).2.1;have w1:=(hel 1 (by omega)).2.1;have w2:=(hel 2 (by omega)).2.1;have w3:=(hel 3 (by omega)).2.1;have w4:=(hel 4 (by omega)).2.1;have w5:=(hel 5 (by omega)).2.1
   simp only[Nat.zero_mul,Nat.add_zero] at w0 w1 w2 w3 w4 w5 ⊢
   have hlen:((bF n 1 v).map Bh).length=0+(bF n 1 v).length:=by simp
   rw[hlen]
   clear hel hu h4 h5 hround hgrow hlt hI
   simp only[List.append_toArray,WQ,WO]
   refine callsIn_of_wp Tryz.func84 rfl trivial ?_ rfl
   simp only[Tryz.ntmps84,XQ,WG,WL,Nat.reduceAdd,Nat.reduceSub,Array.replicate_succ,Array.replicate_zero,List.push_toArray,List.append_toArray,WO,WQ]
   gi_wp2_with (refine⟨trivial,rfl,?_⟩;gi_at_call 85;refine hvis.mono ?_;clear hvis;rintro e W6 (⟨rfl,O6,hJ6,hK6,hG6⟩ | ⟨rfl,hx6⟩))
   ·go_end0
    exact⟨⟨_,rfl⟩,.inl ⟨_,hJ6⟩⟩
   ·go_end0
    exact⟨⟨_,rfl⟩,.inr hx6⟩
theorem ml (v:Val):am Tryz.prog aC 39 [v.pv] (.clo 84 [] [.eptr [v.pv] 0 0]):=by
 obtain⟨k,n,s,t,l,fs⟩:=v
 refine am.intro Q39.2 (by simp[Q39]) ?_
 simp(disch:=try exact dI) only[Q39,WD,push_cast,seval]
def Cn:PV:=.agg [.nilf,.clo 69 [] [],.clo 71 [] [],.clo 72 [] [],.clo 74 [] [],.clo 77 [] [],.clo 78 [] [],.clo 79 [] [],.clo 80 [] [],.clo 81 [] [],.clo 83 [] []]
theorem Dj (f:Nat)(a b:List PV):PV.one (.clo f a b)=true:=rfl
theorem ww:PV.one .nilf=true:=rfl
theorem HJ:am Tryz.prog aC 38 [] Cn:=by
 refine am.intro Q38.2 (by simp[Q38]) ?_
 simp(disch:=try exact dI) only[Q38,Cn,Dj,ww,push_cast,seval]
theorem dT (n a b:Int):am Tryz.prog aC 70 [.int .i64 n,.int .i64 a,.int .i64 b] (.int .i64 (if n<a\/b<n then 2 else 0)):=by
 refine am.intro Q70.2 (by simp[Q70]) ?_
 by_cases h1:n<a
 ·rw[if_pos (.inl h1)]
  simp(disch:=try exact dI) only[Q70,push_cast,seval]
 ·by_cases h2:b<n
  ·rw[if_pos (.inr h2)]
   simp(disch:=try exact dI) only[Q70,push_cast,seval]
  ·rw[if_neg (by omega)]
   simp(disch:=try exact dI) only[Q70,push_cast,seval]
theorem lW (n m e:Int):am Tryz.prog aC 75 [.int .i64 n,.int .i64 m,.int .i64 e] (.int .i64 (if m<n then e else 0)):=by
 refine am.intro Q75.2 (by simp[Q75]) ?_
 by_cases h1:m<n
 ·rw[if_pos h1]
  simp(disch:=try exact dI) only[Q75,push_cast,seval]
 ·rw[if_neg h1]
  simp(disch:=try exact dI) only[Q75,push_cast,seval]
def gw:Val->Bool
 | .mk k n s t l fs=>decide (k=0)&&(decide (n=0)&&(decide (s=0)&&(decide (t=[])&&(decide (l.length=0)&&decide (fs.length=0)))))
def eA:Val->Bool
 | .mk k n s t l fs=>(decide (k=1\/k=2\/k=6\/k=7\/k=3)||decide (n=0))&&((decide (k=3)||decide (s=0))&&((decide (k=4\/k=5\/k=10)||decide (t=[]))&&((decide (k=8\/k=10)||decide (l.length=0))&&(decide (k=9)||decide (fs.length=0)))))
theorem cZ {α:Type}{r b c:α}{P:Prop}(hr:r=b)(hb:b=c)(h:r=c->P):P:=h (hr.trans hb)
theorem Mv (k n s:Int)(t:List UInt8)(l:List Val)(fs:List Fld)(hk:1<=k/\k<=10) :
  ((k=1\/k=2\/k=6\/k=7\/k=3)\/(¬ (k=1\/k=2\/k=6\/k=7\/k=3)/\¬ n=0)\/(¬ (k=1\/k=2\/k=6\/k=7\/k=3)/\n=0))/\(k=3\/(¬ k=3/\¬ s=0)\/(¬ k=3/\s=0)) /\
  ((k=4\/k=5\/k=10)\/(¬ (k=4\/k=5\/k=10)/\¬ t=[])\/(¬ (k=4\/k=5\/k=10)/\t=[])) /\
  ((k=8\/k=10)\/(¬ (k=8\/k=10)/\¬ l.length=0/\¬ (l.length:Int)=0)\/(¬ (k=8\/k=10)/\l.length=0/\(l.length:Int)=0)) /\
  (k=9\/(¬ k=9/\¬ fs.length=0/\¬ (fs.length:Int)=0)\/(¬ k=9/\fs.length=0/\(fs.length:Int)=0)):=by
 refine⟨by omega,by omega,?_,by omega,by omega⟩
 by_cases h:t=[]<;>simp only[h,true_and,and_true,not_true,not_false_iff,and_false,false_or,or_false]<;>exact Classical.em _
theorem NL (v:Val):am Tryz.prog aC 16 [v.pv] (.bool (gw v)):=by
 obtain⟨k,n,s,t,l,fs⟩:=v
 have h5:(l.length=0/\(l.length:Int)=0)\/(¬ l.length=0/\¬ (l.length:Int)=0):=by omega
 have h6:(fs.length=0/\(fs.length:Int)=0)\/(¬ fs.length=0/\¬ (fs.length:Int)=0):=by omega
 obtain⟨r,hr⟩:∃ r,r=gw (.mk k n s t l fs):=⟨_,rfl⟩
 rw[<- hr]
 refine am.intro Q16.2 (by simp[Q16]) ?_
 rcases Classical.em (k=0) with a | a
 all_goals first | (have:=hend;skip) | (refine cZ (c:=false) hr ?_ ?_;(focus (simp[gw, *];done));rintro rfl;have hend:=trivial;clear h5 h6) | rcases Classical.em (n=0) with b | b
 all_goals first | (have:=hend;skip) | (refine cZ (c:=false) hr ?_ ?_;(focus (simp[gw, *];done));rintro rfl;have hend:=trivial;clear h5 h6) | rcases Classical.em (s=0) with c | c
 all_goals first | (have:=hend;skip) | (refine cZ (c:=false) hr ?_ ?_;(focus (simp[gw, *];done));rintro rfl;have hend:=trivial;clear h5 h6) | rcases Classical.em (t=[]) with d | d
 all_goals first | (have:=hend;skip) | (refine cZ (c:=false) hr ?_ ?_;(focus (simp[gw, *];done));rintro rfl;have hend:=trivial;clear h5 h6) | rcases h5 with ⟨e,e1⟩ | ⟨e,e1⟩
 all_goals first | (have:=hend;skip) | (refine cZ (c:=false) hr ?_ ?_;(focus (simp[gw, *];done));rintro rfl;have hend:=trivial;clear h6) | rcases h6 with ⟨f,f1⟩ | ⟨f,f1⟩
 all_goals first | (have:=hend;skip) | (refine cZ (c:=true) hr ?_ ?_;(focus (simp[gw, *];done));rintro rfl) | (refine cZ (c:=false) hr ?_ ?_;(focus (simp[gw, *];done));rintro rfl)
 all_goals clear hr
 all_goals simp(disch:=try exact dI) only[Q16,WD, *,push_cast,seval]
theorem Mw (v:Val)(hk:1<=v.kind/\v.kind<=10):am Tryz.prog aC 40 [v.pv] (.bool (eA v)):=by
 obtain⟨k,n,s,t,l,fs⟩:=v
 simp only[Val.kind] at hk
 obtain⟨h1,h2,h3,h4,h5⟩:=Mv k n s t l fs hk
 obtain⟨r,hr⟩:∃ r,r=eA (.mk k n s t l fs):=⟨_,rfl⟩
 rw[<- hr]
 refine am.intro Q40.2 (by simp[Q40]) ?_
 have hc:k=1\/k=2\/k=3\/k=4\/k=5\/k=6\/k=7\/k=8\/k=9\/k=10:=by omega
 clear hk
 rcases hc with rfl | rfl | rfl | rfl | rfl | rfl | rfl | rfl | rfl | rfl
 all_goals rcases h1 with a | ⟨a,b⟩ | ⟨a,b⟩
 all_goals try omega
 all_goals first | (have:=hend;skip) | (refine cZ (c:=false) hr ?_ ?_;(focus (simp[eA, *];done));rintro rfl;have hend:=trivial;clear h2 h3 h4 h5) | rcases h2 with a2 | ⟨a2,b2⟩ | ⟨a2,b2⟩
 all_goals try omega
 all_goals first | (have:=hend;skip) | (refine cZ (c:=false) hr ?_ ?_;(focus (simp[eA, *];done));rintro rfl;have hend:=trivial;clear h3 h4 h5) | rcases h3 with a3 | ⟨a3,b3⟩ | ⟨a3,b3⟩
 all_goals try omega
 all_goals first | (have:=hend;skip) | (refine cZ (c:=false) hr ?_ ?_;(focus (simp[eA, *];done));rintro rfl;have hend:=trivial;clear h4 h5) | rcases h4 with a4 | ⟨a4,b4,c4⟩ | ⟨a4,b4,c4⟩
 all_goals try omega
 all_goals first | (have:=hend;skip) | (refine cZ (c:=false) hr ?_ ?_;(focus (simp[eA, *];done));rintro rfl;have hend:=trivial;clear h5) | rcases h5 with a5 | ⟨a5,b5,c5⟩ | ⟨a5,b5,c5⟩
 all_goals try omega
 all_goals first | (have:=hend;skip) | (refine cZ (c:=true) hr ?_ ?_;(focus (simp[eA, *];done));rintro rfl) | (refine cZ (c:=false) hr ?_ ?_;(focus (simp[eA, *];done));rintro rfl)
 all_goals clear hr
 all_goals simp(disch:=try exact dI) only[Q40,WD, *,push_cast,seval]
theorem yp (e:List (Nat×AV))(σ:List (Nat×Blk))(new:Nat)(x:AX):kX e σ new (.ofStr x)=mf new (evE e x):=_root_.id rfl
theorem CM (new:Nat){k:List UInt8}(h:k.length<=140737488355328):mf new (.pv (.str k))=some (.pv (.list (aD k)),[(new,.none)]):=by simp only[mf];rw[if_pos h]
def Be (c:UInt8):Bool:=decide (97<=c.toNat)&&decide (c.toNat<=122)
def okC (c:UInt8):Bool:=Be c||(decide (48<=c.toNat)&&decide (c.toNat<=57))||decide (c.toNat=95)
def bz (s:List UInt8):Bool:=decide (0<s.length)&&(decide (s.length<=32)&&(Be (s.headD 0)&&s.all okC))
theorem A3 (s:List UInt8):(aD s).length=s.length:=by simp[aD]
theorem FY {s:List UInt8}{i:Nat}{c:UInt8}(h:s[i]? = some c):(aD s)[i]? = some (.int .u8 (c.toNat:Int)):=by simp[aD,h]
theorem Kk {s:List UInt8}{i:Nat}{c:UInt8}(h:s[i]? = some c):(s.take (i+1)).all okC=((s.take i).all okC&&okC c):=by rw[aK h];simp
theorem vo {s:List UInt8}{i:Nat}{c:UInt8}(h:s[i]? = some c)(hc:okC c=false):s.all okC=false:=by
 rw[Bool.eq_false_iff]
 intro ha
 have:=List.all_eq_true.1 ha c (WK h)
 rw[hc] at this;cases this
theorem mB (s:List UInt8):am Tryz.prog aC 82 [.str s] (.bool (bz s)):=by
 cases s with
 | nil=>
   rw[show bz []=false from rfl]
   refine am.intro Q82.2 (by simp[Q82]) ?_
   simp(disch:=try exact dI) only[Q82,push_cast,seval]
 | cons c r=>
   generalize hs:c::r=s
   have hne:¬ s=[]:=by rw[<- hs];simp
   have h0:s[0]? = some c:=by rw[<- hs];rfl
   have hh:s.headD 0=c:=by rw[<- hs];rfl
   have hlen:0<s.length:=by rw[<- hs];simp
   clear hs
   refine am.intro Q82.2 (by simp[Q82]) ?_
   by_cases h32:s.length<=32
   ·by_cases ha:97<=c.toNat
    ·by_cases hz:c.toNat<=122
     ·have e:bz s=s.all okC:=by simp only[bz,hh,Be,decide_eq_true hlen,decide_eq_true h32,decide_eq_true ha,decide_eq_true hz,Bool.true_and]
      rw[e]
      simp(disch:=try exact dI) only[Q82,hne,h0,aq,yp,CM,A3,push_cast,seval]
      refine aG ([]) (fun i:Nat=>[(25,.pv (.int .i64 (i:Int)))]) (fun _=>[]) (fun i=>i<=s.length/\(s.take i).all okC=true) (fun i=>s.length - i) (0) ?_;intro e0 σ0 n0 h0;simp(disch:=try exact dI) only[push_cast,seval] at h0;obtain⟨rfl,rfl,rfl⟩:=h0;refine⟨?_,?_,?_⟩
      ·exact qsZ
      ·exact⟨by omega,by simp⟩
      rintro i ⟨hi,hall⟩
      by_cases hlt:i<s.length
      ·have hltI:(i:Int)<(s.length:Int):=by omega
       obtain⟨b,hb⟩:∃ b,s[i]? = some b:=⟨_,WE hlt⟩
       have hbp:=FY hb
       have hbn:=b.toNat_lt
       have hsn:=Kk hb
       rw[hall,Bool.true_and] at hsn
       have hc:b.toNat<48\/(48<=b.toNat/\b.toNat<=57)\/(57<b.toNat/\b.toNat<97/\b.toNat≠95)\/b.toNat=95\/(97<=b.toNat/\b.toNat<=122)\/122<b.toNat:=by omega
       rcases hc with hc | hc | hc | hc | hc | hc
       ·have hbad:s.all okC=false:=vo hb (by simp[okC,Be];omega)
        rw[hbad]
        simp(disch:=try exact dI) only[hbp,push_cast,seval]
       ·have hok:okC b=true:=by simp[okC,Be];omega
        simp(disch:=try exact dI) only[hbp,push_cast,seval]
        exact⟨i+1,bl qsZ,⟨by omega,by rw[hsn,hok]⟩,by omega⟩
       ·have hbad:s.all okC=false:=vo hb (by simp[okC,Be];omega)
        rw[hbad]
        simp(disch:=try exact dI) only[hbp,push_cast,seval]
       ·have hok:okC b=true:=by simp[okC,Be];omega
        simp(disch:=try exact dI) only[hbp,push_cast,seval]
        exact⟨i+1,bl qsZ,⟨by omega,by rw[hsn,hok]⟩,by omega⟩
       ·have hok:okC b=true:=by simp[okC,Be];omega
        simp(disch:=try exact dI) only[hbp,push_cast,seval]
        exact⟨i+1,bl qsZ,⟨by omega,by rw[hsn,hok]⟩,by omega⟩
       ·have hbad:s.all okC=false:=vo hb (by simp[okC,Be];omega)
        rw[hbad]
        simp(disch:=try exact dI) only[hbp,push_cast,seval]
      ·have he:s.take i=s:=List.take_of_length_le (by omega)
       rw[he] at hall
       rw[hall]
       exact qsZ
     ·have e:bz s=false:=by simp only[bz,hh,Be,decide_eq_false hz,Bool.and_false,Bool.false_and]
      rw[e]
      simp(disch:=try exact dI) only[Q82,hne,h0,aq,push_cast,seval]
    ·have e:bz s=false:=by simp only[bz,hh,Be,decide_eq_false ha,Bool.and_false,Bool.false_and]
     rw[e]
     simp(disch:=try exact dI) only[Q82,hne,h0,aq,push_cast,seval]
   ·have e:bz s=false:=by simp[bz,h32]
    rw[e]
    simp(disch:=try exact dI) only[Q82,hne,push_cast,seval]
