/- A part. -/
import Derived.RangeFuncBound
import Derived.RangeFuncCalls
import Derived.Shelf.Abstract
import Derived.Shelf.RegionOpen
import Derived.WalkKit
import Derived.OwnWalkIn
import Derived.TacticsInMore
import Derived.LoopIn
import Derived.LoopNIn
import Derived.Test.YtngchmkoadaecaaGreatDoorClJN6
set_option linter.unusedVariables false
set_option linter.unusedSimpArgs false
set_option maxHeartbeats 16000000
set_option maxRecDepth 100000
open List renaming getElem?_eq_getElem->Uq,mem_of_getElem?->Us,getElem?_eq_some_iff->Ur
open Nat renaming le_refl->UI,lt_of_lt_of_le->UZ
namespace Go.Proofs.YtngchmkoadaecaaGreatDoor
open Go Go.Ab Go.RowKit Go.Shelf
attribute [local irreducible] vc
attribute [local go_sem] Oper.semAt_some
def eS:Nat->Int->Val->List (Int×Val)
 | 0,_,_=>[]
 | n+1,lv,v=>(lv,v)::(cP v).flatMap (eS n (wrap64 (lv+1)))
def kB:Nat->Val->Prop
 | 0,_=>False
 | n+1,v=>∀ x∈cP v,kB n x
def xT (q:Int×Val):List PV:=[.int .i64 q.1,q.2.pv]
structure Kept (kp O':Nat->Nat->Prop)(W W':World):Prop where
 size:W.heap.size<=W'.heap.size
 out:∀ b o,kp b o->¬ O' b o
 cell:∀ b o v,kp b o->W.cell? ⟨b,o,none⟩=some v->W'.cell? ⟨b,o,none⟩=some v
theorem yF {W:World}{imm:Nat->Nat->Prop}{v:Val}{u:Value}(h:PRel W imm v.pv u):∃ u0 u1 u2 u3 u4 u5,u = .agg #[u0,u1,u2,u3,u4,u5]/\u0.oneCell'=true/\u1.oneCell'=true/\u2.oneCell'=true/\u3.oneCell'=true/\u4.oneCell'=true/\u5.oneCell'=true:=by
 obtain⟨cs,h1,h2,h3⟩:=v.row
 rw[h1] at h
 cases h with
 | agg _ vs hl hr=>
   have hs:vs.size=6:=by omega
   have h1c:∀ j,j<6->(vs.getD j Go.undef).oneCell'=true:=fun j hj=>by
    obtain⟨x,hx⟩:∃ x,cs[j]? = some x:=⟨_,Uq (by omega)⟩
    have hone:=h3 x (Us hx)
    exact (ARel.oneCell (κ:=⟨W,fun _=>none,imm⟩) (x:=.pv x) hone (.pv _ _ (hr j x hx)))
   refine⟨_,_,_,_,_,_,?_,h1c 0 (by omega),h1c 1 (by omega),h1c 2 (by omega),h1c 3 (by omega),h1c 4 (by omega),h1c 5 (by omega)⟩
   congr 1
   apply Array.ext
   ·simp[hs]
   ·intro j hj _
    simp only[Array.getD_eq_getD_getElem?]
    have:j=0\/j=1\/j=2\/j=3\/j=4\/j=5:=by omega
    rcases this with rfl | rfl | rfl | rfl | rfl | rfl<;>simp[hs]
theorem su (n:Nat)(lv:Int)(v:Val):(eS (n+1) lv v).length=1+((cP v).flatMap (eS n (wrap64 (lv+1)))).length:=by simp[eS];omega
theorem FT {v x:Val}(hv:v.ok)(hx:x∈cP v):x.ok:=by
 obtain⟨k,a,b,t,l,f⟩:=v
 rw[Un] at hv
 obtain⟨_,_,_,_,_,h1,_,h2⟩:=hv
 unfold cP at hx
 split at hx
 ·exact h1 x hx
 ·split at hx
  ·simp only[Val.fields,List.mem_map] at hx
   obtain⟨q,hq,rfl⟩:=hx
   have:=h2 q hq
   obtain⟨nm,w⟩:=q
   rw[TX] at this
   exact this.2
  ·simp at hx
section
variable (l:Nat)(xs:List (List PV))(base:Nat->Nat->Prop)(n0:Nat)(J:Nat->(Nat->Nat->Prop)->World->Prop)(Jx:World->Prop)
theorem pX {W:World}{imm:Nat->Nat->Prop}{L:List Val}{u:Value}(h:PRel W imm (.list (L.map Val.pv)) u):(L=[]/\∃ A c,u = .slice A 0 c) \/
  (L≠[]/\∃ (b off c:Nat) (g:Nat->Nat->Value),u = .slice (some ⟨b,off,none⟩) L.length c/\L.length<=c/\c<=maxLen/\∀ (k:Nat) (x:Val),L[k]? = some x->(∀ j,j<6->imm b (off+k*6+j)/\W.cell? ⟨b,off+k*6+j,none⟩=some (g k j)/\(g k j).oneCell'=true) /\
   PRel W imm x.pv (.agg #[g k 0,g k 1,g k 2,g k 3,g k 4,g k 5])):=by
 generalize hl:L.map Val.pv=l at h
 cases h with
 | lnil A c hc=>exact .inl ⟨by simpa using hl,A,c,rfl⟩
 | list _ b off c sz g h1 h2 h3 h4 h5=>
   subst hl
   cases L with
   | nil=>exact .inl ⟨rfl,some ⟨b,off,none⟩,c,rfl⟩
   | cons x0 r=>
   refine .inr ⟨by simp,b,off,c,g,by simp,by simpa using h1,h2,fun k x hx=>?_⟩
   have hx':((x0::r).map Val.pv)[k]? = some x.pv:=by simp only[List.getElem?_map,hx,Option.map_some]
   have hsz:sz=6:=by rw[<- h3 k _ hx',x.cells_len]
   subst hsz
   obtain⟨cs,e1,e2,e3⟩:=x.row
   have hcs:x.pv.cells=cs:=by rw[e1];rfl
   refine⟨fun j hj=>?_,?_⟩
   ·obtain⟨y,hy⟩:∃ y,cs[j]? = some y:=⟨_,Uq (by omega)⟩
    exact h4 k _ j y hx' (by rw[hcs];exact hy)
   ·rw[e1]
    refine .agg _ _ (by simp[e2]) fun j y hy=>?_
    have hj:j<6:=by have:=(Ur.1 hy).1;omega
    have:=h5 k _ j y hx' (by rw[hcs];exact hy)
    have hc:j=0\/j=1\/j=2\/j=3\/j=4\/j=5:=by omega
    rcases hc with rfl | rfl | rfl | rfl | rfl | rfl<;>exact this
def pu (W:World):Prop:=∀ g,aB g≠[]->∃ cs T fz,W.heap[g]? = some (.cells cs T fz)/\cs.size=(aB g).length
structure Iter:Prop where
 grow:∀ i O W W',J i O W->Below W.heap.size W W'->J i O W'
 lt:∀ i O W b o,J i O W->O b o->b<W.heap.size
 round:∀ (m i:Nat) (x:List PV) (O:Nat->Nat->Prop) (W:World) (vals:Array Value) (imm' kp:Nat->Nat->Prop),J i O W->xs[i]? = some x->vals.size=x.length ->
   (∀ (j:Nat) (y:PV),x[j]? = some y->PRel W imm' y (vals.getD j Go.undef))->(∀ b o,imm' b o->base b o\/n0<=b)->(∀ b o,imm' b o->kp b o)->(∀ b o,kp b o->b<W.heap.size/\¬ O b o) ->
   YieldAt Fence.wide m Tryz.prog l vals W fun e W'=>
    (e = .returned (.bool true)/\(∃ O',J (i+1) O' W'/\∀ b o,kp b o->¬ O' b o)/\W.heap.size<=W'.heap.size/\(∀ b o v,kp b o->W.cell? ⟨b,o,none⟩=some v->W'.cell? ⟨b,o,none⟩=some v)/\pu W') \/
    (e = .returned (.bool false)/\Jx W')
variable {l xs base n0 J Jx}
theorem jN {imm kp O':Nat->Nat->Prop}{W W':World}(h:du aB W imm)(hi:∀ b o,imm b o->kp b o)(hk:Kept kp O' W W')(hg:pu W'):du aB W' imm:=by
 refine⟨fun g o p hp=>?_,hg⟩
 obtain⟨h1,v,h2,h3,h4⟩:=h.1 g o p hp
 exact⟨h1,v,hk.cell _ _ _ (hi _ _ h1) h2,h3,h4.mono (fun _ _ h=>h) (fun b o v hb hv=>hk.cell b o v (hi _ _ hb) hv)⟩
theorem Kept.trans {kp O1 O2:Nat->Nat->Prop}{A B C:World}(h:Kept kp O1 A B)(k:Kept kp O2 B C):Kept kp O2 A C:=
 ⟨Nat.le_trans h.size k.size,k.out,fun b o v hb hv=>k.cell b o v hb (h.cell b o v hb hv)⟩
theorem Kept.less {kp kp' O1:Nat->Nat->Prop}{A B:World}(h:Kept kp O1 A B)(hk:∀ b o,kp' b o->kp b o):Kept kp' O1 A B:=
 ⟨h.size,fun b o hb=>h.out b o (hk b o hb),fun b o v hb hv=>h.cell b o v (hk b o hb) hv⟩
theorem Kept.below {kp O1:Nat->Nat->Prop}{A B:World}(h:Below A.heap.size A B)(ho:∀ b o,kp b o->¬ O1 b o):Kept kp O1 A B:=
 ⟨h.size,ho,fun b o v _ hv=>(World.cell?_of_block (a:=⟨b,o,none⟩) (h.block b (World.block_lt_of_cell? A _ hv))).trans hv⟩
def Tv (kp:Nat->Nat->Prop)(i:Nat)(W:World)(e:Ending)(W':World):Prop:=
 (e = .returned (.bool true)/\∃ O',J i O' W'/\Kept kp O' W W'/\pu W')\/(e = .returned (.bool false)/\Jx W')
theorem Iter.went (h:Iter l xs base n0 J Jx)(m:Nat){i:Nat}{q:Int×Val}{O imm kp:Nat->Nat->Prop}{W:World}{u:Value}(hJ:J i O W)(hx:xs[i]? = some (xT q))(hu:PRel W imm q.2.pv u)(hb:∀ b o,imm b o->base b o\/n0<=b)(hi:∀ b o,imm b o->kp b o)(hk:∀ b o,kp b o->b<W.heap.size/\¬ O b o) :
  YieldAt Fence.wide m Tryz.prog l #[.int .i64 q.1,u] W (Tv (J:=J) (Jx:=Jx) kp (i+1) W):=by
 obtain⟨fn,tmps,assign,body,hy,hR⟩:=h.round m i _ O W #[.int .i64 q.1,u] imm kp hJ hx rfl (fun j y hy=>by
  match j,hy with
  | 0,hy=>simp[xT] at hy;subst hy;exact .int _ _
  | 1,hy=>simp[xT] at hy;subst hy;exact hu
  | j+2,hy=>simp[xT] at hy) hb hi hk
 refine⟨fn,tmps,assign,body,hy,hR.mono ?_⟩
 rintro e W' (⟨rfl,⟨O',h1,h2⟩,h3,h4,h5⟩ | ⟨rfl,h1⟩)
 ·exact .inl ⟨rfl,O',h1,⟨h3,h2,h4⟩,h5⟩
 ·exact .inr ⟨rfl,h1⟩
theorem Ma {α β:Type}(f:α->List β){L:List α}{k:Nat}{x:α}(hx:L[k]? = some x){j:Nat}{q:β}(hq:(f x)[j]? = some q):(L.flatMap f)[((L.take k).flatMap f).length+j]? = some q:=by
 have hk:k<L.length:=(Ur.1 hx).1
 have hxe:L[k]=x:=(Ur.1 hx).2
 have hj:j<(f x).length:=(Ur.1 hq).1
 have e:L=L.take k++(x::L.drop (k+1)):=by rw[<- hxe,<- List.drop_eq_getElem_cons hk,List.take_append_drop]
 have e2:L.flatMap f=(L.take k).flatMap f++(f x++(L.drop (k+1)).flatMap f):=by
  conv=>lhs;rw[e]
  simp[List.flatMap_append]
 rw[e2,List.getElem?_append_right (by omega),Nat.add_sub_cancel_left,List.getElem?_append_left hj]
 exact hq
theorem Cw {α β:Type}(f:α->List β){L:List α}{k:Nat}{x:α}(hx:L[k]? = some x):((L.take (k+1)).flatMap f).length=((L.take k).flatMap f).length+(f x).length:=by
 rw[aC hx];simp[List.flatMap_append]
theorem lL {A B:World}(h:Below A.heap.size A B){b o:Nat}{v:Value}(hv:A.cell? ⟨b,o,none⟩=some v):B.cell? ⟨b,o,none⟩=some v:=
 (World.cell?_of_block (a:=⟨b,o,none⟩) (h.block b (World.block_lt_of_cell? A _ hv))).trans hv
theorem jM {A B:World}(h:Below A.heap.size A B)(hg:pu A):pu B:=fun g hx=>by
 obtain⟨cs,T,fz,q1,q2⟩:=hg g hx
 exact⟨cs,T,fz,(h.block g (Array.getElem?_eq_some_iff.1 q1).1).trans q1,q2⟩
def M1 (l:Nat)(xs:List (List PV))(base:Nat->Nat->Prop)(n0:Nat)(J:Nat->(Nat->Nat->Prop)->World->Prop)(Jx:World->Prop)(n:Nat):Prop:=
 ∀ (v:Val),kB n v->v.ok->∀ (lv:Int) (i0 m:Nat) (O imm kp:Nat->Nat->Prop) (W:World) (u:Value),
   (∀ j q,(eS n lv v)[j]? = some q->xs[i0+j]? = some (xT q))->J i0 O W->PRel W imm v.pv u->du aB W imm->(∀ b o,imm b o->base b o\/n0<=b)->(∀ b o,imm b o->kp b o)->(∀ b o,kp b o->b<W.heap.size/\¬ O b o)->n0<=W.heap.size ->
   CallsIn Fence.wide m Tryz.prog 186 #[u,.int .i64 lv,.func (.yield l) #[] #[]] W (Tv (J:=J) (Jx:=Jx) kp (i0+(eS n lv v).length) W)
theorem tZ (h:Iter l xs base n0 J Jx)(n:Nat)(ih:M1 l xs base n0 J Jx n):M1 l xs base n0 J Jx (n+1):=by
 intro v hd hvo lv i0 m O imm kp W u hxs hJ hu hG hbase hik hkO hn0
 obtain⟨u0,u1,u2,u3,u4,u5,hue,o0,o1,o2,o3,o4,o5⟩:=yF hu
 let W1:=W.alloc (.cells #[u0,u1,u2,u3,u4,u5] 108)
 have b1:Below W.heap.size W W1:=(Below.refl _ W).alloc (UI _) _
 let kp1:Nat->Nat->Prop:=fun b o=>kp b o\/b=W.heap.size
 have hJ1:J i0 O W1:=h.grow _ _ _ _ hJ b1
 have hu1:PRel W1 imm v.pv u:=hu.mono (fun _ _ h=>h) (fun b o v _ hv=>(World.cell?_of_block (a:=⟨b,o,none⟩) (b1.block b (World.block_lt_of_cell? W _ hv))).trans hv)
 have hO:∀ o,¬ O W.heap.size o:=fun o ho=>by have:=h.lt _ _ _ _ _ hJ ho;omega
 have hy:=h.went (m - 1) (q:=(lv,v)) (kp:=kp1) hJ1 (by simpa[eS] using hxs 0 (lv,v) (by simp[eS])) hu1 hbase (fun b o hi=>.inl (hik b o hi)) (fun b o hk=>by
  rcases hk with hk | rfl
  ·exact⟨UZ (hkO b o hk).1 b1.size,(hkO b o hk).2⟩
  ·exact⟨by simp[W1],hO o⟩)
 obtain⟨fn,tmps,assign,body,hy,hR⟩:=hy
 rw[hue] at hy
 simp only[W1] at hy hR
 have hnext:∀ W2 O2,J (i0+1) O2 W2->Kept kp1 O2 W1 W2->pu W2->True:=fun _ _ _ _ _=>trivial
 subst hue
 refine callsIn_of_wp Tryz.func186 rfl trivial ?_ rfl
 simp only[Tryz.ntmps186,List.size_toArray,List.length_cons,List.length_nil,Nat.reduceAdd,Nat.reduceSub,Array.replicate_succ,Array.replicate_zero,List.push_toArray,List.append_toArray,List.nil_append,List.cons_append]
 gi_wp2
 refine⟨fun h=>(by cases h),hR.mono ?_⟩
 rintro e W2 (⟨rfl,O2,hJ2,hK2,hG2⟩ | ⟨rfl,hx2⟩)
 ·have c0:∀ j x,W1.cell? ⟨W.heap.size,j,none⟩=some x->W2.cell? ⟨W.heap.size,j,none⟩=some x:=fun j x hx=>hK2.cell _ _ _ (.inr rfl) hx
  have d0:=c0 0 u0 (by simp[W1]);have d1:=c0 1 u1 (by simp[W1]);have d2:=c0 2 u2 (by simp[W1]);have d3:=c0 3 u3 (by simp[W1]);have d4:=c0 4 u4 (by simp[W1]);have d5:=c0 5 u5 (by simp[W1])
  clear c0
  have hK0:Kept kp O2 W W2:=(Kept.below b1 (fun b o hb=>hK2.out b o (.inl hb))).trans (hK2.less fun b o hb=>.inl hb)
  have hu2:PRel W2 imm v.pv (.agg #[u0,u1,u2,u3,u4,u5]):=hu.mono (fun _ _ h=>h) (fun b o v hi hv=>hK0.cell b o v (hik b o hi) hv)
  have hGl2:=jN hG hik hK0 hG2
  have hpc:=(callsIn_wide (n:=m - 1)).2 ((FU v (by obtain⟨k',n',s',t',l',f'⟩:=v;rw[Un] at hvo;exact hvo.2.2.2.2.2.2.1)).2 W2 imm #[.agg #[u0,u1,u2,u3,u4,u5]] hGl2 (fun b o hi=>UZ (hkO b o (hik b o hi)).1 hK0.size) rfl (fun i x hx=>by
   cases i with
   | zero=>simp at hx;subst hx;exact hu2
   | succ i=>simp at hx))
  clear hR hy hu1 hu
  gi_wp2_with (refine⟨trivial,fun h=>(by cases h),?_⟩;gi_at_call 194;refine hpc.mono ?_;clear hpc;rintro e W3 ⟨s3,imm3,rfl,hB3,hi1,hi2,hi3,hr3⟩;rcases pX hr3 with ⟨hL,A,cc,rfl⟩ | ⟨hL,b,off,cc,g,rfl,hc1,hc2,hel⟩)
  ·have hKf:Kept kp O2 W W3:=hK0.trans (Kept.below hB3 (fun b o hb=>hK2.out b o (.inl hb)))
   have hJ3:J (i0+1) O2 W3:=h.grow _ _ _ _ hJ2 hB3
   have hG3:=jM hB3 hG2
   gi_loopw [17] (fun p wr=>p = .int .i64 0/\wr=W3) (fun p wr=>0)
   case atStart=>exact⟨rfl,rfl⟩
   case round=>
    obtain⟨rfl,rfl⟩:=hrel
    gi_wp2
    refine bodyPost_ret (results_tmp rfl _ _ _) rfl ?_
    exact .inl ⟨rfl,O2,by rw[su,hL];simpa using hJ3,hKf,hG3⟩
  ·generalize hLd:cP v=L at hr3 hL hel hc1 ⊢
   let kp3:Nat->Nat->Prop:=fun b o=>kp b o\/imm3 b o
   have hJ3:J (i0+1) O2 W3:=h.grow _ _ _ _ hJ2 hB3
   have hout3:∀ b o,kp3 b o->¬ O2 b o:=by
    rintro b o (hb | hb)
    ·exact hK2.out b o (.inl hb)
    ·rcases hi2 b o hb with hb | hb
     ·exact hK2.out b o (.inl (hik b o hb))
     ·intro ho;have:=h.lt _ _ _ _ _ hJ2 ho;omega
   have hG3:pu W3:=fun g hg=>by
    obtain⟨cs,T,fz,q1,q2⟩:=hG2 g hg
    exact⟨cs,T,fz,(hB3.block g (Array.getElem?_eq_some_iff.1 q1).1).trans q1,q2⟩
   gi_loopw [17] (fun p wr=>∃ (k:Nat) (O':Nat->Nat->Prop),p = .int .i64 (k:Int)/\k<=L.length/\J (i0+1+((L.take k).flatMap (eS n (wrap64 (lv+1)))).length) O' wr/\Kept kp3 O' W3 wr/\pu wr) (fun p wr=>L.length - (intOf p).toNat)
   case atStart=>exact⟨0,O2,rfl,Nat.zero_le _,by simpa using hJ3,⟨UI _,hout3,fun _ _ _ _ h=>h⟩,hG3⟩
   case round=>
    obtain⟨k,O',rfl,hk,hJk,hKk,hGk⟩:=hrel
    by_cases hlt:k<L.length
    ·obtain⟨x,hx⟩:∃ x,L[k]? = some x:=⟨_,Uq hlt⟩
     obtain⟨hg,hrx⟩:=hel k x hx
     have w0:=hKk.cell _ _ _ (.inr (hg 0 (by omega)).1) (hg 0 (by omega)).2.1
     have w1:=hKk.cell _ _ _ (.inr (hg 1 (by omega)).1) (hg 1 (by omega)).2.1
     have w2:=hKk.cell _ _ _ (.inr (hg 2 (by omega)).1) (hg 2 (by omega)).2.1
     have w3:=hKk.cell _ _ _ (.inr (hg 3 (by omega)).1) (hg 3 (by omega)).2.1
     have w4:=hKk.cell _ _ _ (.inr (hg 4 (by omega)).1) (hg 4 (by omega)).2.1
     have w5:=hKk.cell _ _ _ (.inr (hg 5 (by omega)).1) (hg 5 (by omega)).2.1
     have s0:=fun (a:Addr) (w:World)=>run_store Tryz.prog w a (g k 0) .plain (hg 0 (by omega)).2.2
     have s1:=fun (a:Addr) (w:World)=>run_store Tryz.prog w a (g k 1) .plain (hg 1 (by omega)).2.2
     have s2:=fun (a:Addr) (w:World)=>run_store Tryz.prog w a (g k 2) .plain (hg 2 (by omega)).2.2
     have s3:=fun (a:Addr) (w:World)=>run_store Tryz.prog w a (g k 3) .plain (hg 3 (by omega)).2.2
     have s4:=fun (a:Addr) (w:World)=>run_store Tryz.prog w a (g k 4) .plain (hg 4 (by omega)).2.2
     have s5:=fun (a:Addr) (w:World)=>run_store Tryz.prog w a (g k 5) .plain (hg 5 (by omega)).2.2
     have hlI:(k:Int)<(L.length:Int):=by omega
     have hk0:(0:Int)<=(k:Int):=by omega
     simp only[Nat.add_zero] at w0
     clear hg
     let W5:=wr.alloc (.cells #[g k 0,g k 1,g k 2,g k 3,g k 4,g k 5] 108)
     have b5:Below wr.heap.size wr W5:=(Below.refl _ wr).alloc (UI _) _
     have s3r:W3.heap.size<=wr.heap.size:=hKk.size
     have hgl3:du aB W3 imm3:=⟨fun g o p hp=>by
      obtain⟨q1,v,q2,q3,q4⟩:=hGl2.1 g o p hp
      exact⟨hi1 _ _ q1,v,lL hB3 q2,q3,q4.mono hi1 (fun b o v _ hv=>lL hB3 hv)⟩,hG3⟩
     have hK5:Kept kp3 O' W3 W5:=hKk.trans (Kept.below b5 hKk.out)
     have hsub:∀ b o,imm3 b o->kp3 b o:=fun b o h=>.inr h
     have ihx:=ih x (hd x (by rw[hLd];exact Us hx)) (FT hvo (by rw[hLd];exact Us hx)) (wrap64 (lv+1)) (i0+1+((L.take k).flatMap (eS n (wrap64 (lv+1)))).length) (m - 1) O' imm3 kp3 W5 (.agg #[g k 0,g k 1,g k 2,g k 3,g k 4,g k 5])
      (fun j q hq=>by
       have:=hxs (1+(((L.take k).flatMap (eS n (wrap64 (lv+1)))).length+j)) q (by
        rw[eS,hLd,Nat.add_comm 1,List.getElem?_cons_succ]
        exact Ma _ hx hq)
       rw[<- this];congr 1;omega) (h.grow _ _ _ _ hJk b5) (hrx.mono (fun _ _ h=>h) (fun b o v hi hv=>hK5.cell b o v (.inr hi) hv)) (jN hgl3 hsub hK5 (jM b5 hGk))
      (fun b o hi=>by
       rcases hi2 b o hi with hi | hi
       ·exact hbase b o hi
       ·have:=hK0.size;exact .inr (by omega)) hsub (fun b o hb=>⟨by
        have:=b5.size
        have:=hK0.size
        have:=hB3.size
        rcases hb with hb | hb
        ·have:=(hkO b o hb).1;omega
        ·have:=hi3 b o hb;omega,hKk.out b o hb⟩) (by have:=b5.size;have:=hK0.size;have:=hB3.size;omega)
     simp only[W5] at ihx
     have hkw:wrap64 ((k:Int)+1)=((k+1:Nat):Int):=by
      have hml:maxLen=9223372036854775807:=rfl
      unfold wrap64;omega
     have hft:=Cw (eS n (wrap64 (lv+1))) hx
     have hidx:i0+1+((L.take (k+1)).flatMap (eS n (wrap64 (lv+1)))).length=i0+1+((L.take k).flatMap (eS n (wrap64 (lv+1)))).length+(eS n (wrap64 (lv+1)) x).length:=by rw[hft];omega
     clear hft
     have hmu:L.length - (intOf (.int .i64 (wrap64 ((k:Int)+1)))).toNat<L.length - (intOf (.int .i64 (k:Int))).toNat:=by
      rw[hkw]
      exact Nat.sub_lt_sub_left hlt (Nat.lt_succ_self k)
     gi_wp2_with (refine⟨trivial,fun h=>(by cases h),?_⟩;gi_at_call 186;refine ihx.mono ?_;clear ihx;rintro e W6 (⟨rfl,O6,hJ6,hK6,hG6⟩ | ⟨rfl,hx6⟩))
     ·rw[<- hidx] at hJ6
      have hJ7:=hJ6
      go_roundw
      case rel=>exact⟨k+1,O6,congrArg _ hkw,hlt,hJ7,hK5.trans hK6,hG6⟩
      case measure=>exact hmu
     ·refine bodyPost_ret (results_tmp rfl _ _ _) rfl ?_
      exact .inr ⟨rfl,hx6⟩
    ·have hke:k=L.length:=by omega
     subst hke
     have hKf:Kept kp O' W wr:=(hK0.trans (Kept.below hB3 (fun b o hb=>hout3 b o (.inl hb)))).trans (hKk.less fun b o hb=>.inl hb)
     gi_wp2
     refine bodyPost_ret (results_tmp rfl _ _ _) rfl ?_
     refine .inl ⟨rfl,O',?_,hKf,hGk⟩
     rw[su,hLd,<- Nat.add_assoc]
     simpa using hJk
 ·gi_wp2
  go_ret
  exact .inr ⟨rfl,hx2⟩
end
