/- A part. -/
import Derived.Shelf.SlSortCmp.NoneTotal
import Derived.Test.YtbaaokocnegdoaaGreatDoorEnVZ4
set_option linter.unusedVariables false
set_option linter.unusedSimpArgs false
set_option maxHeartbeats 16000000
set_option maxRecDepth 100000
open Array renaming range->Wo,getElem?_eq_some_iff->Vx,getD_eq_getD_getElem?->Vn,getElem?_modify->WM
open List renaming range->V0,take_of_length_le->VC,length_map->Vv,getD_eq_getElem?_getD->Vm,getElem?_eq_getElem->Vg,getElem?_eq_some_iff->Vh,getElem?_map->Vu,eq_nil_of_length_eq_zero->VJ,mem_cons->VY,cons_append->VF,nil_append->VB,map_nil->Vo,length_drop->Wu
open Nat renaming zero_le->Wv,le_refl->Vw,lt_of_lt_of_le->VE,le_trans->V3
namespace Go.Proofs.YtbaaokocnegdoaaGreatDoor
open Go Go.Ab Go.RowKit
def Oy:Fld:=.mk [] (.mk 0 0 0 [] [] [])
def nmL (l:List Fld)(i:Nat):List UInt8:=(l.getD i Oy).name
def cfL (l:List Fld)(i j:Nat):Int:=Lib.compareBytes (nmL l i) (nmL l j)
def d6 (l:List Fld):Array Nat:=Sort.pdq (Go.Proofs.ltOf (cfL l)) (Wo l.length) 0 (Wo l.length).size (Lib.bitLen (Wo l.length).size) true true
def srt (l:List Fld):List Fld:=(d6 l).toList.map fun i=>l.getD i Oy
theorem kO:∀ (a b c:List UInt8),Lib.compareBytes a b<0->Lib.compareBytes b c<0->Lib.compareBytes a c<0
 | [],b,[],h1,h2=>by
   cases b with
   | nil=>exact h2
   | cons x q=>simp[Lib.compareBytes] at h2
 | [],b,z::r,h1,h2=>by simp[Lib.compareBytes]
 | x::p,[],c,h1,h2=>by simp[Lib.compareBytes] at h1
 | x::p,y::q,[],h1,h2=>by simp[Lib.compareBytes] at h2
 | x::p,y::q,z::r,h1,h2=>by
   have ih:=kO p q r
   simp only[Lib.compareBytes,UInt8.lt_iff_toNat_lt] at *
   repeat' split at h1
   all_goals repeat' split at h2
   all_goals repeat' split
   all_goals first | omega | exact ih h1 h2 | (exfalso;omega)
theorem rS:∀ (a b c:List UInt8),¬ Lib.compareBytes a b<0->¬ Lib.compareBytes b c<0->¬ Lib.compareBytes a c<0
 | [],[],c,h1,h2=>h2
 | [],y::q,c,h1,h2=>by simp[Lib.compareBytes] at h1
 | x::p,b,[],h1,h2=>by simp[Lib.compareBytes]
 | x::p,[],z::r,h1,h2=>by simp[Lib.compareBytes] at h2
 | x::p,y::q,z::r,h1,h2=>by
   have ih:=rS p q r
   simp only[Lib.compareBytes,UInt8.lt_iff_toNat_lt] at *
   repeat' split at h1
   all_goals repeat' split at h2
   all_goals repeat' split
   all_goals first | omega | exact ih h1 h2 | (exfalso;omega)
theorem py:∀ a:List UInt8,Lib.compareBytes a a=0
 | []=>rfl
 | x::p=>by
   have:=py p
   simp only[Lib.compareBytes,UInt8.lt_iff_toNat_lt]
   rw[if_neg (by omega),if_neg (by omega)];exact this
theorem So (l:List Fld):Sort.SWO (Go.Proofs.ltOf (cfL l)) where
 irrefl x:=decide_eq_false (by rw[cfL,py];decide)
 trans x y z h1 h2:=decide_eq_true (kO _ _ _ (of_decide_eq_true h1) (of_decide_eq_true h2))
 ntrans x y z h1 h2:=decide_eq_false (rS _ _ _ (of_decide_eq_false h1) (of_decide_eq_false h2))
theorem lM (l:List Fld):(d6 l).toList.Perm (V0 l.length):=by
 have h:=(Sort.pdq_sorts (Go.Proofs.ltOf (cfL l)) (So l) (Wo l.length) 0 (Wo l.length).size (Lib.bitLen (Wo l.length).size) true true (Wv _) (Vw _) (Or.inl rfl)).1
 obtain⟨h1,_,h3⟩:=h
 have e1:(d6 l).size=(Wo l.length).size:=h1
 have h4:((d6 l).extract 0 (Wo l.length).size).toList.Perm ((Wo l.length).extract 0 (Wo l.length).size).toList:=h3
 simp only[Array.size_range] at e1
 simp only[Array.size_range,Array.toList_extract,List.extract_eq_take_drop,List.drop_zero,Nat.sub_zero,Array.toList_range] at h4
 rw[VC (by simp[e1]),VC (by simp)] at h4
 exact h4
theorem ta (l:List Fld):Sort.SortedIn (Go.Proofs.ltOf (cfL l)) 0 (Wo l.length).size (d6 l):=
 (Sort.pdq_sorts (Go.Proofs.ltOf (cfL l)) (So l) (Wo l.length) 0 (Wo l.length).size (Lib.bitLen (Wo l.length).size) true true (Wv _) (Vw _) (Or.inl rfl)).2
theorem eq (l:List Fld):(d6 l).size=l.length:=by
 have:=(lM l).length_eq
 simpa using this
theorem gS (l:List Fld):(srt l).length=l.length:=by
 unfold srt;rw[Vv,Array.length_toList,eq]
theorem nh:∀ (l:List Fld),(V0 l.length).map (fun i=>l.getD i Oy)=l:=by
 intro l
 apply List.ext_getElem
 ·simp
 ·intro i h1 h2
  simp[Vm,Vg h2]
theorem oD (l:List Fld):(srt l).Perm l:=by
 have:=(lM l).map fun i=>l.getD i Oy
 rwa [nh] at this
theorem xO (l:List Fld)(i j:Nat)(x y:Fld)(hij:i<j)(hx:(srt l)[i]? = some x)(hy:(srt l)[j]? = some y):¬ Lib.compareBytes y.name x.name<0:=by
 have hj:j<(d6 l).size:=by
  have:=(Vh.1 hy).1
  rw[gS] at this;rw[eq];exact this
 have hs:=ta l i j (Wv _) hij (by simp;rw[<- eq];exact hj)
 unfold srt at hx hy
 rw[Vu,Option.map_eq_some_iff] at hx hy
 obtain⟨a,ha,rfl⟩:=hx
 obtain⟨b,hb,rfl⟩:=hy
 have ea:(d6 l)[i]! = a:=by
  have:(d6 l)[i]? = some a:=by simpa using ha
  rw[getElem!_def,this]
 have eb:(d6 l)[j]! = b:=by
  have:(d6 l)[j]? = some b:=by simpa using hb
  rw[getElem!_def,this]
 rw[ea,eb] at hs
 simpa[Go.Proofs.ltOf,cfL,nmL] using hs
theorem SRel.grow {c:Ctx}{κ:Kap}{σ:aw}(hS:SRel c κ σ)(w':World)(os:Array Obj)(h:w'=Sort.grow κ.w os)(hc:c.w0.heap.size<=κ.w.heap.size) :
  Ext κ ⟨w',κ.nm,κ.imm⟩/\SRel c ⟨w',κ.nm,κ.imm⟩ σ/\∀ imm0,Go.Ab.Left c imm0 κ->Go.Ab.Left c imm0 ⟨w',κ.nm,κ.imm⟩:=by
 have hb:∀ b,b<κ.w.heap.size->w'.heap[b]? = κ.w.heap[b]?:=by
  intro b hb
  rw[h]
  show (κ.w.heap++os)[b]? = _
  rw[Array.getElem?_append,if_pos hb]
 have hsz:κ.w.heap.size<=w'.heap.size:=by rw[h];show _<=(κ.w.heap++os).size;simp
 have he:Ext κ ⟨w',κ.nm,κ.imm⟩:=by
  refine⟨fun _ _ h=>h,fun b o v hi hcl=>?_,fun _ _ h=>h,fun b o ho _=>?_⟩
  ·have:=hb b (hS.immLt b o hi)
   simpa[World.cell?,this] using hcl
  ·exact (hb b (Vx.1 ho).1).trans ho
 refine⟨he,⟨fun r=>?_,hS.apart,hS.mine,fun b o hi=>VE (hS.immLt b o hi) hsz,?_⟩,fun imm0 hL=>⟨?_,?_,?_,V3 hL.size hsz,fun b hlt hl=>(hb b (VE hlt hc)).trans (hL.block b hlt hl),hL.imm⟩⟩
 ·exact (hS.blk r).keep he fun hz d b hd hbk=>⟨hb b ((hS.blk r).lt hz hd hbk),fun o ho=>ho⟩
 ·exact U5 he hS.glob fun g h1 h2=>hb g (VE h1 hc)
 ·show w'.os=_;rw[h];exact hL.os
 ·show w'.tape=_;rw[h];exact hL.tape
 ·show w'.output=_;rw[h];exact hL.output
def pj (f:Fld):List PV:=f.pv.cells
theorem wj (nm:List UInt8)(k n s:Int)(t:List UInt8)(l:List Val)(fs:List Fld):pj (.mk nm (.mk k n s t l fs))=[.str nm,.int .i64 k,.int .i64 n,.int .i64 s,.str t,.list (l.map Val.pv),.list (fs.map Fld.pv)]:=by
 unfold pj;rw[U3,Vf];rfl
theorem iN (f:Fld):(pj f).length=7:=by
 obtain⟨nm,⟨k,n,s,t,l,fs⟩⟩:=f
 rw[wj];rfl
theorem kH:∀ (l:List Fld) (i j:Nat) (f:Fld),l[i]? = some f->j<7->(bC (l.map Fld.pv))[i*7+j]? = ((pj f)[j]?).map AV.pv
 | [],i,j,f,h,_=>by simp at h
 | x::r,0,j,f,h,hj=>by
   simp only[List.getElem?_cons_zero,Option.some.injEq] at h
   subst h
   have:bC ((x::r).map Fld.pv)=(pj x).map AV.pv++bC (r.map Fld.pv):=by simp[bC,pj]
   rw[this,List.getElem?_append_left (by rw[Vv,iN];omega),Nat.zero_mul,Nat.zero_add,Vu]
 | x::r,i+1,j,f,h,hj=>by
   have:bC ((x::r).map Fld.pv)=(pj x).map AV.pv++bC (r.map Fld.pv):=by simp[bC,pj]
   rw[this,List.getElem?_append_right (by rw[Vv,iN];omega),Vv,iN,show (i+1)*7+j - 7=i*7+j by omega]
   exact kH r i j f (by simpa using h) hj
theorem dw (l:List Fld):(bC (l.map Fld.pv)).length=l.length*7:=jX (fun f=>iN f) l
theorem Ly {G:Nat->List PV}(l:List Fld)(hl:l.length<=1000000) :
  bk Tryz.prog G 1 112 [.row 0 7 0 l.length,.pv (.clo 113 [] [])] [.cells 83 false (bC (l.map Fld.pv))] (.pv (.tup [])) [.cells 83 false (bC ((srt l).map Fld.pv))]:=by
 refine⟨by kernel_rfl,fun κ vals hS hf hsz hargs=>?_⟩
 have hv:=uH hsz
 have h0:=hargs 0 _ rfl
 have h1:=hargs 1 _ rfl
 generalize vals.getD 0 Go.undef=v0 at *
 generalize vals.getD 1 Go.undef=v1 at *
 subst hv
 have e1:v1 = .func (.func 113) #[] #[]:=by
  have h2:=aH h1
  cases h2 with
  | clo _ _ _ vs us g1 g2 g3 g4=>
    obtain rfl:vs = #[]:=by apply Array.eq_empty_of_size_eq_zero;simpa using g1
    obtain rfl:us = #[]:=by apply Array.eq_empty_of_size_eq_zero;simpa using g3
    rfl
 subst e1
 have hσ:(fun r=>lookB r (cf [Blk.cells 83 false (bC (l.map Fld.pv))] 0)) 0 = .cells 83 false (bC (l.map Fld.pv)):=rfl
 have hR:fe κ 0 (.cells 83 false (bC (l.map Fld.pv))):=hS.blk 0
 generalize hn:l.length=n at h0
 cases h0 with
 | row0=>
   obtain rfl:l=[]:=VJ hn
   have hc:=Go.Proofs.AnyF.slices_SortFunc_none (P:=Tryz.prog) (ρ:=Tryz.sortF_ren) { Va with } none 0 (.func (.func 113) #[] #[]) κ.w
   refine Calls.mono (show Calls Tryz.prog 112 #[.slice none 0 0,.func (.func 113) #[] #[]] κ.w _ from hc) ?_
   rintro e w' ⟨rfl,rfl⟩
   have hs:srt []=[]:=VJ (by rw[gS];rfl)
   rw[hs]
   exact⟨_,.pv (.tup []),κ,_,1,rfl,rfl,κ.cut_ext 1,⟨rfl,rfl,rfl,Vw _,fun _ _ _=>rfl,fun _ _ h=>.inl h⟩,.pv _ _ (.tup [] #[] rfl (fun i x hx=>by simp at hx)),hS,hf,rfl,rfl,rfl⟩
 | row _ _ _ _ b nn cap hnm h2 h3 h4 h5=>
   subst hn
   rcases hR with ⟨_,_,hx⟩ | ⟨b',n',cs,q1,q2,q3,q4,q5,q6,q7⟩
   ·rw[hx] at hnm;cases hnm
   rw[hnm] at q1;cases q1
   have hcs:l.length*7<=cs.size:=by rw[q3];rw[dw] at q4;exact q4
   have cellAt:∀ (i j:Nat) (f:Fld) (q:PV),l[i]? = some f->j<7->(pj f)[j]? = some q->ARel κ (.pv q) (cs.getD (i*7+j) Go.undef):=by
    intro i j f q hi hj hq
    refine q6 (i*7+j) _ ?_
    rw[kH l i j f hi hj,hq];rfl
   have hXe:∀ i,∃ x:FldC,x.name.data.toList=nmL l i/\(i<l.length->∀ j,j<7->(AR x)[j]! = cs.getD (i*7+j) Go.undef):=by
    intro i
    by_cases hi:i<l.length
    ·obtain⟨f,hfi⟩:∃ f,l[i]? = some f:=⟨_,Vg hi⟩
     obtain⟨nm,⟨k,m,s,t,ls,fs⟩⟩:=f
     have a:=fun j q hj hq=>cellAt i j _ q hfi hj hq
     rw[wj] at a
     obtain⟨s0,a0,a0',_⟩:=eP (a 0 _ (by omega) rfl)
     have o1:=(a 1 _ (by omega) rfl).oneCell rfl
     have o2:=(a 2 _ (by omega) rfl).oneCell rfl
     have o3:=(a 3 _ (by omega) rfl).oneCell rfl
     have o4:=(a 4 _ (by omega) rfl).oneCell rfl
     have o5:=(a 5 _ (by omega) rfl).oneCell rfl
     have o6:=(a 6 _ (by omega) rfl).oneCell rfl
     refine⟨⟨s0,_,_,_,_,_,_,o1,o2,o3,o4,o5,o6⟩,?_,fun _ j hj=>?_⟩
     ·unfold nmL
      rw[Vm,hfi]
      exact a0'.symm
     ·match j,hj with
      | 0,_=>exact a0.symm
      | 1,_=>rfl
      | 2,_=>rfl
      | 3,_=>rfl
      | 4,_=>rfl
      | 5,_=>rfl
      | 6,_=>rfl
    ·exact⟨⟨⟨(nmL l i).toArray⟩,.int .i64 0,.int .i64 0,.int .i64 0,.int .i64 0,.int .i64 0,.int .i64 0,by decide⟩,by simp,fun h=>absurd h hi⟩
   obtain⟨X,hX⟩:=Classical.axiomOfChoice hXe
   have hblk:b<κ.w.heap.size:=(Vx.1 q2).1
   have hH:Sort.HoldsK (fun i=>AR (X i)) 7 κ.w b 0 (Wo l.length):=by
    intro t ht
    rw[Sort.size_flatK,Array.size_range] at ht
    rw[Sort.get_flatK _ _ _ t (by rw[Array.size_range];exact ht)]
    have ht7:t / 7<l.length:=by omega
    have er:(Wo l.length)[t / 7]! = t / 7:=by rw[getElem!_pos _ _ (by simpa using ht7)];simp
    rw[er,(hX (t / 7)).2 ht7 (t % 7) (Nat.mod_lt _ (by omega)),show t / 7*7+t % 7=t by omega]
    have htc:t<cs.size:=by omega
    refine⟨?_,?_⟩
    ·simp[World.cell?,q2,Vn,htc]
    ·simp[World.frozen?,q2]
   have hcmp:Go.Proofs.CmpLays Tryz.prog 113 #[] (fun i=>AR (X i)) 7 (cfL l) b 0 (Wo l.length).size κ.w:=by
    intro m os dk hdk x y
    have:=Af (X x) (X y) (Go.Proofs.sortWorldK (fun i=>AR (X i)) 7 κ.w b 0 m dk os)
    rw[Tz,(hX x).1,(hX y).1] at this
    exact this
   have eg:∀ args w,(callFunc 113 args).run Tryz.prog w = .ok (.enter 113 args) w:=enters_of Tryz.func113 (by kernel_rfl) rfl
   have hc:=Go.Proofs.AnyQ.slices_SortFunc_eq (P:=Tryz.prog) (ρ:=Tryz.sortF_ren) Va 7 Tryz.isAgg83 Tryz.sizeOf83 (fun i=>AR (X i)) (fun _=>rfl) (fun i v hv=>by
    obtain⟨g1,g2,g3,g4,g5,g6⟩:=(X i).one
    simp only[AR,VY,List.not_mem_nil,or_false] at hv
    rcases hv with rfl | rfl | rfl | rfl | rfl | rfl | rfl<;>first | rfl | assumption) (cfL l) (So l) 113 #[] b 0 cap (Wo l.length) κ.w eg hcmp hH hblk (by rw[Array.size_range];omega)
   have hc':Calls Tryz.prog 112 #[.slice (some ⟨b,0,none⟩) l.length cap,.func (.func 113) #[] #[]] κ.w fun e w'=>e = .returned (.tuple #[])/\∃ m os,w'=Go.Proofs.sortWorldK (fun i=>AR (X i)) 7 κ.w b 0 m (d6 l) os:=by
    have e2:(Wo l.length).size=l.length:=Array.size_range
    have:=hc
    rw[e2] at this
    unfold d6
    rw[e2]
    exact this
   refine hc'.mono ?_
   rintro e w' ⟨rfl,m,os,rfl⟩
   obtain⟨F,hF⟩:∃ F,F=Sort.flatK (fun i=>AR (X i)) 7 (d6 l):=⟨_,rfl⟩
   obtain⟨w1,hw1⟩:∃ w1,w1=Sort.putRow id (Sort.ahead κ.w m) b 0 F:=⟨_,rfl⟩
   have hFs:F.size=l.length*7:=by rw[hF,Sort.size_flatK,eq]
   have hheap:w1.heap=κ.w.heap.modify b (Sort.onCells (Sort.putCells id 0 F)):=by rw[hw1];rfl
   have hb1:w1.heap[b]? = some (.cells (Sort.putCells id 0 F cs) 83 (0,0)):=by
    rw[hheap,WM,if_pos rfl,q2];rfl
   have hother:∀ b',b'≠b->w1.heap[b']? = κ.w.heap[b']?:=by
    intro b' hb'
    rw[hheap,WM,if_neg (Ne.symm hb')]
   have hlent:(fun r=>lookB r (cf [Blk.cells 83 false (bC (l.map Fld.pv))] 0)) 0≠.none:=by rw[hσ];exact fun h=>by cases h
   obtain⟨k1,k2⟩:=GC hS (r0:=0) (b0:=b) (d0:=.blk b nn) (Bo:=.cells 83 false (bC ((srt l).map Fld.pv))) (w':=w1) 1
    (by rw[hw1];rfl) (by rw[hw1];rfl) (by rw[hw1];rfl) (by rw[hheap,Array.size_modify]) hother q7 hlent hnm rfl
   have hcs':(Sort.putCells id 0 F cs).size=nn:=by simp[Sort.putCells,q3]
   have hget:∀ t,t<l.length*7->(Sort.putCells id 0 F cs).getD t Go.undef=F[t]!:=by
    intro t ht
    have htc:t<cs.size:=by omega
    rw[Vn]
    simp[Sort.putCells,Array.getElem?_mapIdx,htc,hFs,ht]
   have hB:fe ⟨w1,κ.nm,κ.imm⟩ 0 (.cells 83 false (bC ((srt l).map Fld.pv))):=by
    refine .inr ⟨b,nn,_,hnm,hb1,hcs',by rw[dw,gS];rw[dw] at q4;exact q4,(fun h=>by cases h),fun o x hx=>?_,q7⟩
    have ho:o<l.length*7:=by
     have:=(Vh.1 hx).1
     rwa [dw,gS] at this
    have ho7:o / 7<(d6 l).size:=by rw[eq];omega
    have hsr:(srt l)[o / 7]? = some (l.getD (d6 l)[o / 7]! Oy):=by
     unfold srt
     rw[Vu,Array.getElem?_toList,Array.getElem?_eq_getElem ho7,getElem!_pos (d6 l) (o / 7) ho7];rfl
    have hal:(d6 l)[o / 7]! < l.length:=by
     rw[getElem!_pos (d6 l) (o / 7) ho7]
     have:=(lM l).mem_iff.1 (Array.getElem_mem_toList ho7)
     simpa using this
    obtain⟨a,ha⟩:∃ a,a=(d6 l)[o / 7]!:=⟨_,rfl⟩
    rw[<- ha] at hal hsr
    have hla:l[a]? = some (l.getD a Oy):=by rw[Vm,Vg hal];rfl
    have hxa:=kH (srt l) (o / 7) (o % 7) _ hsr (Nat.mod_lt _ (by omega))
    rw[show o / 7*7+o % 7=o by omega,hx] at hxa
    have hxl:=kH l a (o % 7) _ hla (Nat.mod_lt _ (by omega))
    rw[<- hxa] at hxl
    have hrel:=q6 _ _ hxl
    rw[hget o ho,hF,Sort.get_flatK _ _ _ o (by rw[eq];exact ho),<- ha,(hX a).2 hal (o % 7) (Nat.mod_lt _ (by omega))]
    exact hrel.ext k1.ext
   have hS1:=k2 hB
   obtain⟨g1,g2,g3⟩:=SRel.grow hS1 (Go.Proofs.sortWorldK (fun i=>AR (X i)) 7 κ.w b 0 m (d6 l) os) os (by
    show _=Sort.grow w1 os
    rw[hw1,hF];rfl) k1.size
   have hL0:Go.Ab.Left (cr κ (fun r=>lookB r (cf [Blk.cells 83 false (bC (l.map Fld.pv))] 0)) G) κ.imm κ:=⟨rfl,rfl,rfl,Vw _,fun _ _ _=>rfl,fun _ _ h=>.inl h⟩
   have hσ':(aw.set (fun r=>lookB r (cf [Blk.cells 83 false (bC (l.map Fld.pv))] 0)) 0 (.cells 83 false (bC ((srt l).map Fld.pv))))=fun r=>lookB r (cf [Blk.cells 83 false (bC ((srt l).map Fld.pv))] 0):=by
    funext r
    by_cases hr:r=0
    ·subst hr;rfl
    ·simp only[aw.set,hr,if_false,cf,lookB]
     rw[if_neg (fun e=>hr e.symm),if_neg (fun e=>hr e.symm)]
   rw[hσ'] at g2
   exact⟨_,.pv (.tup []),_,_,1,rfl,rfl,(κ.cut_ext 1).trans (k1.ext.trans g1),g3 _ (k1.left _ hL0),.pv _ _ (.tup [] #[] rfl (fun i x hx=>by simp at hx)),g2,hf,rfl,rfl,rfl⟩
attribute [local irreducible] vc
def oH (nm:List UInt8)(g:Fld):Bool:=decide (g.name=nm)&&!bw g.value
def Ey (nm:List UInt8)(k n s:Int)(t:List UInt8)(l:List Val)(f:List Fld):List AV:=[.pv (.str nm),.pv (.int .i64 k),.pv (.int .i64 n),.pv (.int .i64 s),.pv (.str t),.pv (.list (l.map Val.pv)),.pv (.list (f.map Fld.pv))]
section
variable (nm:List UInt8)(k n s:Int)(t:List UInt8)(l:List Val)(f:List Fld)
theorem QU (g:Fld):bk Tryz.prog aq 1 110 [.pv g.pv,.ptr 0 0] [.cells 83 true (Ey nm k n s t l f)] (.pv (.bool (oH nm g))) [.cells 83 true (Ey nm k n s t l f)]:=by
 obtain⟨nm',v⟩:=g
 have hN:=tt v
 rw[show oH nm (.mk nm' v)=(decide (nm'=nm)&&!bw v) from rfl]
 generalize bw v=B at *
 obtain⟨k',n',s',t',l',f'⟩:=v
 simp only[Vf] at hN
 by_cases h1:nm'=nm
 ·rw[decide_eq_true h1,Bool.true_and]
  refine bk.intro KU.2 (by simp[KU]) ?_
  simp(disch:=try exact dI) only[KU,U3,Vf,h1,Ey,ag,VF,VB,push_cast,seval]
  refine ab.pure hN rfl ?_
  refine zgZ ?_
  exact aC [] qsZ
 ·rw[decide_eq_false h1,Bool.false_and]
  refine bk.intro KU.2 (by simp[KU]) ?_
  simp(disch:=try exact dI) only[KU,U3,Vf,h1,Ey,ag,VF,VB,push_cast,seval]
  exact aC [] qsZ
theorem Iq (L:List Fld)(hl:L.length<=9000000000000) :
  bk Tryz.prog aq 1 151 [.pv (.list (L.map Fld.pv)),.clo 110 [] [.ptr 0 0]] [.cells 83 true (Ey nm k n s t l f)] (.pv (.int .i64 (fB (oH nm) L 0))) [.cells 83 true (Ey nm k n s t l f)]:=by
 have hq:=fun x=>QU nm k n s t l f x
 generalize oH nm=q at *
 simp only[Ey] at hq ⊢
 refine bk.intro KQ.2 (by simp[KQ]) ?_
 simp(disch:=try exact dI) only[KQ,push_cast,seval]
 refine ap ([]) (fun m:Nat=>[(8,.pv (.int .i64 (m:Int)))]) (fun m=>[]) (fun m=>m<=L.length/\fB q L 0=fB q (L.drop m) m) (fun m=>L.length - m) (0) ?_;intro e0 σ0 n0 h0;simp(disch:=try exact dI) only[push_cast,seval] at h0;obtain⟨rfl,rfl,rfl⟩:=h0;refine⟨?_,?_,?_⟩
 ·exact qsZ
 ·exact⟨by omega,by simp⟩
 ·rintro m ⟨hm,he⟩
  by_cases hlt:m<L.length
  ·have hltI:(m:Int)<L.length:=by omega
   obtain⟨x,hx⟩:∃ x,L[m]? = some x:=⟨_,Vg hlt⟩
   have hcall:=hq x
   simp(disch:=try exact dI) only[hx,Fld.cells_len,Fld.isAgg,push_cast,seval]
   refine ab.lentK hcall [0] rfl qsZ qsZ ?_
   cases hqx:q x with
   | true=>
     rw[he,fN hx hqx]
     refine zgZ ?_
     exact aC [] qsZ
   | false=>
     rw[dR hx hqx] at he
     refine zgZ ?_
     exact⟨m+1,aI qsZ,⟨by omega,he⟩,by omega⟩
  ·have hltI:¬ (m:Int)<L.length:=by omega
   rw[he,fO hlt]
   refine zgZ ?_
   exact aC [] qsZ
theorem uj (L:List Fld)(hl:L.length<=9000000000000)(hno:L.any (oH nm)=false) :
  bk Tryz.prog aq 1 109 [.pv (.list (L.map Fld.pv)),.clo 110 [] [.ptr 0 0]] [.cells 83 true (Ey nm k n s t l f)] (.pv (.bool false)) [.cells 83 true (Ey nm k n s t l f)]:=by
 have h94:=Iq nm k n s t l f L hl
 have hfa:=iR (p:=oH nm) L
 rw[hno] at hfa
 simp only[Ey] at h94 ⊢
 refine bk.intro RR.2 (by simp[RR]) ?_
 rcases bZ (p:=oH nm) L 0 with ⟨h1,h2⟩ | ⟨k,x,h1,h2,h3⟩
 ·rw[h2] at h94
  simp(disch:=try exact dI) only[RR,push_cast,seval]
  refine ab.lentK h94 [0] rfl qsZ qsZ ?_
  refine zgZ ?_
  exact aC [] qsZ
 ·rw[h2] at hfa;cases hfa
end
theorem UX (l:List Fld)(i:Nat):tq 7 (l.map Fld.pv) l.length (some i)=some (.pv (.list ((l.drop i).map Fld.pv))):=by
 have hs:JU 7 (l.map Fld.pv) i=true:=by
  cases i with
  | zero=>rfl
  | succ a=>
    unfold JU
    simp only[Vu]
    cases l[a+1]? with
    | none=>rfl
    | some x=>simp[Fld.cells_len]
 rw[nQ hs,VC (by rw[Vv];exact Vw _),List.map_drop]
theorem Nb (x:Fld):∃ cs,x.pv = .agg cs/\cs.length=7/\∀ q∈cs,q.one=true:=by
 obtain⟨nm,⟨k,n,s,t,l,fs⟩⟩:=x
 refine⟨_,by rw[U3,Vf],rfl,fun q hq=>?_⟩
 simp only[PV.cells,VF,VB,VY,List.not_mem_nil,or_false] at hq
 rcases hq with rfl | rfl | rfl | rfl | rfl | rfl | rfl<;>rfl
theorem TJ (l:List Fld)(hl:l.length<=65540)(nm:List UInt8)(w1 w2 w3:Int)(w4:List UInt8)(w5:List Val)(w6:List Fld)(new q:Nat) :
  up 83 7 104 new q 7 0 l.length [.agg [.str nm,.int .i64 w1,.int .i64 w2,.int .i64 w3,.str w4,.list (w5.map Val.pv),.list (w6.map Fld.pv)]] (.cells 83 false (bC (l.map Fld.pv))) =
   some (.row new 7 0 (l.length+1),[(q,.none),(new,.cells 83 false (bC ((l++[Fld.mk nm (.mk w1 w2 w3 w4 w5 w6)]).map Fld.pv)))]):=by
 rw[kP (by rw[dw];exact Vw _) (by simp;omega) (by simp;omega),VC (by rw[dw];exact Vw _)]
 have e:bC ((l++[Fld.mk nm (.mk w1 w2 w3 w4 w5 w6)]).map Fld.pv)=bC (l.map Fld.pv)++bC [.agg [.str nm,.int .i64 w1,.int .i64 w2,.int .i64 w3,.str w4,.list (w5.map Val.pv),.list (w6.map Fld.pv)]]:=by
  simp only[bC,List.map_append,List.flatMap_append,List.map_cons,Vo]
  rw[U3,Vf];rfl
 rw[e];rfl
def dn (x:Fld):Bool:=!bw x.value
def oJ (l:List Fld):Val:=.mk 9 0 0 [] [] (srt (l.filter dn))
def kn (l:List Fld):Prop:=(l.map Fld.name).Nodup
theorem Di {l:List Fld}(h:kn l){i:Nat}{x:Fld}(hx:l[i]? = some x):(l.drop (i+1)).any (oH x.name)=false:=by
 rw[List.any_eq_false]
 intro y hy
 unfold oH
 have hne:y.name≠x.name:=by
  intro e
  obtain⟨j,hj,hyj⟩:=List.getElem_of_mem hy
  have hxi:i<l.length:=(Vh.1 hx).1
  have hxe:l[i]=x:=(Vh.1 hx).2
  rw[Wu] at hj
  rw[List.getElem_drop] at hyj
  have h1:=List.pairwise_iff_getElem.1 h i (i+1+j) (by simpa using hxi) (by rw[Vv];omega) (by omega)
  simp only[List.getElem_map] at h1
  rw[hxe,hyj] at h1
  exact h1 e.symm
 simp[hne]
theorem tV {l:List Fld}{i:Nat}{x:Fld}(hx:l[i]? = some x):(l.take (i+1)).filter dn=if dn x=true then (l.take i).filter dn++[x] else (l.take i).filter dn:=by
 rw[aD hx,List.filter_append]
 split
 ·rename_i h;simp[h]
 ·rename_i h;simp[h]
theorem G3 (l:List Fld)(hl:l.length<=65000)(hok:∀ x∈l,x.ok)(hnd:kn l):ae Tryz.prog aq 59 [.list (l.map Fld.pv)] (oJ l).pv:=by
 have hfl:∀ i,((l.take i).filter dn).length<=65000:=fun i=>V3 (List.length_filter_le _ _) (by rw[List.length_take];omega)
 have hF:(l.filter dn).length<=65000:=V3 (List.length_filter_le _ _) hl
 have hcl:ae Tryz.prog aq 58 [(oJ l).pv] (oJ l).pv:=by
  refine iY _ _ (Nat.lt_succ_self _) ?_
  unfold oJ
  rw[Ve]
  refine⟨⟨by omega,by omega⟩,⟨by omega,by omega⟩,⟨by omega,by omega⟩,by simp,by simp,by simp,by rw[gS];omega,fun x hx=>?_⟩
  exact hok x (List.mem_filter.1 ((oD _).mem_iff.1 hx)).1
 have hsort:=Ly (G:=aq) (l.filter dn) (by omega)
 have hsl:=gS (l.filter dn)
 have hfz:=fun (n r:Nat) (hn:n=(srt (l.filter dn)).length)=>IS (sz:=7) (f:=Fld.pv) Nb (by omega) (srt (l.filter dn)) (n:=n) (r:=r) (T:=83) (b:=false) hn
 unfold oJ at hcl ⊢
 refine ae.intro Og.2 (by simp[Og]) ?_
 simp(disch:=try exact dI) only[Og,push_cast,seval]
 refine ap ([(3,6,1000083,7)]) (fun i:Nat=>[(10,.pv (.int .i64 (i:Int)))]) (fun i=>[(1,.cells 31 true [.pv (.int .i64 9),.pv (.int .i64 0),.pv (.int .i64 0),.pv (.str []),.pv .nils,.row 2 7 0 ((l.take i).filter dn).length]),(2,.cells 83 false (bC (((l.take i).filter dn).map Fld.pv)))]) (fun i=>i<=l.length) (fun i=>l.length - i) (0) ?_;intro e0 σ0 n0 h0;simp(disch:=try exact dI) only[push_cast,seval] at h0;obtain⟨rfl,rfl,rfl⟩:=h0;refine⟨?_,?_,?_⟩
 ·simp(disch:=try exact dI) only[bC,List.flatMap_nil,List.take_zero,List.filter_nil,Vo,List.length_nil,push_cast,seval]
 ·omega
 rintro i hi
 by_cases hlt:i<l.length
 ·have hltI:(i:Int)<(l.length:Int):=by omega
  obtain⟨x,hx⟩:∃ x,l[i]? = some x:=⟨_,Vg hlt⟩
  have hno:=Di hnd hx
  have hfs:=tV hx
  have hN:=tt x.value
  have hli:=hfl i
  have hkp:dn x=!bw x.value:=rfl
  generalize bw x.value=B at *
  obtain⟨nm,⟨vk,vn,vs,vt,vl,vf⟩⟩:=x
  have hc:=uj nm vk vn vs vt vl vf (l.drop (i+1)) (by rw[Wu];omega) hno
  simp only[Fld.value,Vf,Ey] at hN hc
  have hcut:=UX l (i+1)
  rw[hkp] at hfs
  have ha:=TJ ((l.take i).filter dn) (by omega) nm vk vn vs vt vl vf
  generalize (l.take i).filter dn=K at *
  simp(disch:=try exact dI) only[hx,Option.map_some,U3,Vf,ag,hcut,push_cast,seval]
  refine ab.lentK hc [4] rfl qsZ qsZ ?_
  refine zgZ ?_
  refine ab.pure hN rfl ?_
  cases B with
  | true=>
    rw[if_neg (by decide)] at hfs
    refine zgZ ?_
    exact⟨i+1,aI (by simp(disch:=try exact dI) only[hfs,push_cast,seval]),by omega,by omega⟩
  | false=>
    rw[if_pos (by decide)] at hfs
    simp(disch:=try exact dI) only[ha,push_cast,seval]
    exact⟨i+1,aI (by simp(disch:=try exact dI) only[hfs,List.length_append,push_cast,seval]),by omega,by omega⟩
 ·obtain rfl:i=l.length:=by omega
  rw[List.take_length]
  simp only[Vf,Vo] at hcl ⊢
  rw[hsl] at hfz
  generalize srt (l.filter dn)=S at *
  generalize l.filter dn=K at *
  simp(disch:=try exact dI) only[Int.lt_irrefl,push_cast,seval]
  have hcl2:ae Tryz.prog aq 58 [.agg [.int .i64 9,.int .i64 0,.int .i64 0,.str [],.nils,.list (S.map Fld.pv)]] _:=hcl.nz (.cons _ _ _ _ (.agg _ _ (.cons _ _ _ _ (.refl _) (.cons _ _ _ _ (.refl _) (.cons _ _ _ _ (.refl _) (.cons _ _ _ _ (.refl _) (.cons _ _ _ _ .nils (.cons _ _ _ _ (.refl _) .nil))))))) .nil)
  refine ab.lentK hsort [2] rfl qsZ qsZ ?_
  simp(disch:=try exact dI) only[hfz,push_cast,seval]
  refine ab.pure hcl2 rfl ?_
  exact qsZ
def ltF (a b:Fld):Prop:=Lib.compareBytes a.name b.name<0
theorem Pd {l fs:List Fld}(hp2:fs.Pairwise ltF)(hp0:l.Perm fs):srt l=fs:=by
 have hs:(srt l).Pairwise fun a b=>¬ Lib.compareBytes b.name a.name<0:=by
  rw[List.pairwise_iff_getElem]
  intro i j hi hj hij
  exact xO l i j _ _ hij (Vg hi) (Vg hj)
 have hpp:=(oD l).trans hp0
 refine List.Perm.eq_of_pairwise (le:=fun a b=>¬ Lib.compareBytes b.name a.name<0) ?_ hs (hp2.imp fun {a b} hab hba=>?_) hpp
 ·intro a b ha hb h1 h2
  have hb':=hb
  have ha':=hpp.mem_iff.1 ha
  obtain⟨i,hi,rfl⟩:=List.getElem_of_mem ha'
  obtain⟨j,hj,rfl⟩:=List.getElem_of_mem hb'
  have hpw:=List.pairwise_iff_getElem.1 hp2
  rcases Nat.lt_trichotomy i j with h | h | h
  ·exact absurd (hpw i j hi hj h) h2
  ·subst h;rfl
  ·exact absurd (hpw j i hj hi h) h1
 ·have:=kO _ _ _ hab hba
  rw[py] at this
  exact absurd this (by decide)
theorem KC:∀ a b:List UInt8,decide (Lib.compareBytes a b<0)=bg a b
 | [],[]=>rfl
 | [],_::_=>rfl
 | _::_,[]=>rfl
 | a::r,b::q=>by
   have ih:decide (Lib.compareBytes r q<0)=Op.bytesLess r q:=KC r q
   show _=Op.bytesLess (a::r) (b::q)
   rw[Lib.compareBytes,Op.bytesLess]
   by_cases h1:a<b
   ·simp[h1]
   ·by_cases h2:b<a
    ·have:¬ a=b:=by rintro rfl;exact (UInt8.lt_irrefl a) h2
     simp[h1,h2,this]
    ·have h3:a=b:=UInt8.le_antisymm (UInt8.not_lt.1 h2) (UInt8.not_lt.1 h1)
     simp[h1,h2,h3,ih]
