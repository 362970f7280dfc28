/- A part of the proof. -/
import Derived.Shelf.SlSortCmp.NoneTotal
import Derived.Test.YtbaaokocnegdoaaGreatDoorDeVUk
set_option linter.unusedVariables false
set_option linter.unusedSimpArgs false
set_option maxHeartbeats 16000000
set_option maxRecDepth 100000
namespace Go.Proofs.YtbaaokocnegdoaaGreatDoor
open Go Go.Ab Go.RowKit
def OP:Fld:=.mk [] (.mk 0 0 0 [] [] [])
def nmL (l:List Fld)(i:Nat):List UInt8:=(l.getD i OP).name
def cfL (l:List Fld)(i j:Nat):Int:=Lib.compareBytes (nmL l i) (nmL l j)
def dN (l:List Fld):Array Nat:=Sort.pdq (Go.Proofs.ltOf (cfL l)) (Array.range l.length) 0 (Array.range l.length).size (Lib.bitLen (Array.range l.length).size) true true
def srt (l:List Fld):List Fld:=(dN l).toList.map fun i=>l.getD i OP
theorem j3:∀ (a b c:List UInt8),Lib.compareBytes a b<0->Lib.compareBytes b c<0->Lib.compareBytes a c<0
 | [],b,[],h1,h2=>by
   cases b with
   | nil=>exact h2
   | cons x q=>simp[Lib.compareBytes] at h2
 | [],b,z::r,h1,h2=>by simp[Lib.compareBytes]
 | x::p,[],c,h1,h2=>by simp[Lib.compareBytes] at h1
 | x::p,y::q,[],h1,h2=>by simp[Lib.compareBytes] at h2
 | x::p,y::q,z::r,h1,h2=>by
   have ih:=j3 p q r
   simp only[Lib.compareBytes,UInt8.lt_iff_toNat_lt] at *
   repeat' split at h1
   all_goals repeat' split at h2
   all_goals repeat' split
   all_goals first | omega | exact ih h1 h2 | (exfalso;omega)
theorem q0:∀ (a b c:List UInt8),¬ Lib.compareBytes a b<0->¬ Lib.compareBytes b c<0->¬ Lib.compareBytes a c<0
 | [],[],c,h1,h2=>h2
 | [],y::q,c,h1,h2=>by simp[Lib.compareBytes] at h1
 | x::p,b,[],h1,h2=>by simp[Lib.compareBytes]
 | x::p,[],z::r,h1,h2=>by simp[Lib.compareBytes] at h2
 | x::p,y::q,z::r,h1,h2=>by
   have ih:=q0 p q r
   simp only[Lib.compareBytes,UInt8.lt_iff_toNat_lt] at *
   repeat' split at h1
   all_goals repeat' split at h2
   all_goals repeat' split
   all_goals first | omega | exact ih h1 h2 | (exfalso;omega)
theorem tJ:∀ a:List UInt8,Lib.compareBytes a a=0
 | []=>rfl
 | x::p=>by
   have:=tJ p
   simp only[Lib.compareBytes,UInt8.lt_iff_toNat_lt]
   rw[if_neg (by omega),if_neg (by omega)];exact this
theorem Sv (l:List Fld):Sort.SWO (Go.Proofs.ltOf (cfL l)) where
 irrefl x:=decide_eq_false (by rw[cfL,tJ];decide)
 trans x y z h1 h2:=decide_eq_true (j3 _ _ _ (of_decide_eq_true h1) (of_decide_eq_true h2))
 ntrans x y z h1 h2:=decide_eq_false (q0 _ _ _ (of_decide_eq_false h1) (of_decide_eq_false h2))
theorem kO (l:List Fld):(dN l).toList.Perm (List.range l.length):=by
 have h:=(Sort.pdq_sorts (Go.Proofs.ltOf (cfL l)) (Sv l) (Array.range l.length) 0 (Array.range l.length).size (Lib.bitLen (Array.range l.length).size) true true (Nat.zero_le _) (Nat.le_refl _) (Or.inl rfl)).1
 obtain⟨h1,_,h3⟩:=h
 have e1:(dN l).size=(Array.range l.length).size:=h1
 have h4:((dN l).extract 0 (Array.range l.length).size).toList.Perm ((Array.range l.length).extract 0 (Array.range l.length).size).toList:=h3
 simp only[Array.size_range] at e1
 simp only[Array.size_range,Array.toList_extract,List.extract_eq_take_drop,List.drop_zero,Nat.sub_zero,Array.toList_range] at h4
 rw[List.take_of_length_le (by simp[e1]),List.take_of_length_le (by simp)] at h4
 exact h4
theorem sw (l:List Fld):Sort.SortedIn (Go.Proofs.ltOf (cfL l)) 0 (Array.range l.length).size (dN l):=
 (Sort.pdq_sorts (Go.Proofs.ltOf (cfL l)) (Sv l) (Array.range l.length) 0 (Array.range l.length).size (Lib.bitLen (Array.range l.length).size) true true (Nat.zero_le _) (Nat.le_refl _) (Or.inl rfl)).2
theorem dU (l:List Fld):(dN l).size=l.length:=by
 have:=(kO l).length_eq
 simpa using this
theorem ep (l:List Fld):(srt l).length=l.length:=by
 unfold srt;rw[List.length_map,Array.length_toList,dU]
theorem ml:∀ (l:List Fld),(List.range l.length).map (fun i=>l.getD i OP)=l:=by
 intro l
 apply List.ext_getElem
 ·simp
 ·intro i h1 h2
  simp[List.getD_eq_getElem?_getD,List.getElem?_eq_getElem h2]
theorem fJ (l:List Fld):(srt l).Perm l:=by
 have:=(kO l).map fun i=>l.getD i OP
 rwa [ml] at this
theorem mL (l:List Fld)(i j:Nat)(x y:Fld)(hij:i<j)(hx:(srt l)[i]? = some x)(hy:(srt l)[j]? = some y):¬ Lib.compareBytes y.name x.name<0:=by
 have hj:j<(dN l).size:=by
  have:=(List.getElem?_eq_some_iff.1 hy).1
  rw[ep] at this;rw[dU];exact this
 have hs:=sw l i j (Nat.zero_le _) hij (by simp;rw[<- dU];exact hj)
 unfold srt at hx hy
 rw[List.getElem?_map,Option.map_eq_some_iff] at hx hy
 obtain⟨a,ha,rfl⟩:=hx
 obtain⟨b,hb,rfl⟩:=hy
 have ea:(dN l)[i]! = a:=by
  have:(dN l)[i]? = some a:=by simpa using ha
  rw[getElem!_def,this]
 have eb:(dN l)[j]! = b:=by
  have:(dN l)[j]? = some b:=by simpa using hb
  rw[getElem!_def,this]
 rw[ea,eb] at hs
 simpa[Go.Proofs.ltOf,cfL,nmL] using hs
theorem SRel.grow {c:Ctx}{κ:Kap}{σ:au}(hS:SRel c κ σ)(w':World)(os:Array Obj)(h:w'=Sort.grow κ.w os)(hc:c.w0.heap.size<=κ.w.heap.size) :
  Ext κ ⟨w',κ.nm,κ.imm⟩/\SRel c ⟨w',κ.nm,κ.imm⟩ σ/\∀ imm0,Go.Ab.Left c imm0 κ->Go.Ab.Left c imm0 ⟨w',κ.nm,κ.imm⟩:=by
 have hb:∀ b,b<κ.w.heap.size->w'.heap[b]? = κ.w.heap[b]?:=by
  intro b hb
  rw[h]
  show (κ.w.heap++os)[b]? = _
  rw[Array.getElem?_append,if_pos hb]
 have hsz:κ.w.heap.size<=w'.heap.size:=by rw[h];show _<=(κ.w.heap++os).size;simp
 have he:Ext κ ⟨w',κ.nm,κ.imm⟩:=by
  refine⟨fun _ _ h=>h,fun b o v hi hcl=>?_,fun _ _ h=>h,fun b o ho _=>?_⟩
  ·have:=hb b (hS.immLt b o hi)
   simpa[World.cell?,this] using hcl
  ·exact (hb b (Array.getElem?_eq_some_iff.1 ho).1).trans ho
 refine⟨he,⟨fun r=>?_,hS.apart,hS.mine,fun b o hi=>Nat.lt_of_lt_of_le (hS.immLt b o hi) hsz,?_⟩,fun imm0 hL=>⟨?_,?_,?_,Nat.le_trans hL.size hsz,fun b hlt hl=>(hb b (Nat.lt_of_lt_of_le hlt hc)).trans (hL.block b hlt hl),hL.imm⟩⟩
 ·exact (hS.blk r).keep he fun hz d b hd hbk=>⟨hb b ((hS.blk r).lt hz hd hbk),fun o ho=>ho⟩
 ·exact SRel.glob_ext he hS.glob fun g h1 h2=>hb g (Nat.lt_of_lt_of_le h1 hc)
 ·show w'.os=_;rw[h];exact hL.os
 ·show w'.tape=_;rw[h];exact hL.tape
 ·show w'.output=_;rw[h];exact hL.output
def om (f:Fld):List PV:=f.pv.cells
theorem vj (nm:List UInt8)(k n s:Int)(t:List UInt8)(l:List Val)(fs:List Fld):om (.mk nm (.mk k n s t l fs))=[.str nm,.int .i64 k,.int .i64 n,.int .i64 s,.str t,.list (l.map Val.pv),.list (fs.map Fld.pv)]:=by
 unfold om;rw[Fld.pv_mk,Val.pv_mk];rfl
theorem ij (f:Fld):(om f).length=7:=by
 obtain⟨nm,⟨k,n,s,t,l,fs⟩⟩:=f
 rw[vj];rfl
theorem jW:∀ (l:List Fld) (i j:Nat) (f:Fld),l[i]? = some f->j<7->(bA (l.map Fld.pv))[i*7+j]? = ((om f)[j]?).map AV.pv
 | [],i,j,f,h,_=>by simp at h
 | x::r,0,j,f,h,hj=>by
   simp only[List.getElem?_cons_zero,Option.some.injEq] at h
   subst h
   have:bA ((x::r).map Fld.pv)=(om x).map AV.pv++bA (r.map Fld.pv):=by simp[bA,om]
   rw[this,List.getElem?_append_left (by rw[List.length_map,ij];omega),Nat.zero_mul,Nat.zero_add,List.getElem?_map]
 | x::r,i+1,j,f,h,hj=>by
   have:bA ((x::r).map Fld.pv)=(om x).map AV.pv++bA (r.map Fld.pv):=by simp[bA,om]
   rw[this,List.getElem?_append_right (by rw[List.length_map,ij];omega),List.length_map,ij,show (i+1)*7+j - 7=i*7+j by omega]
   exact jW r i j f (by simpa using h) hj
theorem dh (l:List Fld):(bA (l.map Fld.pv)).length=l.length*7:=jr (fun f=>ij f) l
theorem LH {G:Nat->List PV}(l:List Fld)(hl:l.length<=1000000) :
  bF Tryz.prog G 1 112 [.row 0 7 0 l.length,.pv (.clo 113 [] [])] [.cells 83 false (bA (l.map Fld.pv))] (.pv (.tup [])) [.cells 83 false (bA ((srt l).map Fld.pv))]:=by
 refine⟨by kernel_rfl,fun κ vals hS hf hsz hargs=>?_⟩
 have hv:=AN hsz
 have h0:=hargs 0 _ rfl
 have h1:=hargs 1 _ rfl
 generalize vals.getD 0 Go.undef=v0 at *
 generalize vals.getD 1 Go.undef=v1 at *
 subst hv
 have e1:v1 = .func (.func 113) #[] #[]:=by
  have h2:=aH h1
  cases h2 with
  | clo _ _ _ vs us g1 g2 g3 g4=>
    obtain rfl:vs = #[]:=by apply Array.eq_empty_of_size_eq_zero;simpa using g1
    obtain rfl:us = #[]:=by apply Array.eq_empty_of_size_eq_zero;simpa using g3
    rfl
 subst e1
 have hσ:(fun r=>lookB r (bW [Blk.cells 83 false (bA (l.map Fld.pv))] 0)) 0 = .cells 83 false (bA (l.map Fld.pv)):=rfl
 have hR:eH κ 0 (.cells 83 false (bA (l.map Fld.pv))):=hS.blk 0
 generalize hn:l.length=n at h0
 cases h0 with
 | row0=>
   obtain rfl:l=[]:=List.eq_nil_of_length_eq_zero hn
   have hc:=Go.Proofs.AnyF.slices_SortFunc_none (P:=Tryz.prog) (ρ:=Tryz.sortF_ren) { Tryz.sortF with } none 0 (.func (.func 113) #[] #[]) κ.w
   refine Calls.mono (show Calls Tryz.prog 112 #[.slice none 0 0,.func (.func 113) #[] #[]] κ.w _ from hc) ?_
   rintro e w' ⟨rfl,rfl⟩
   have hs:srt []=[]:=List.eq_nil_of_length_eq_zero (by rw[ep];rfl)
   rw[hs]
   exact⟨_,.pv (.tup []),κ,_,1,rfl,rfl,κ.cut_ext 1,⟨rfl,rfl,rfl,Nat.le_refl _,fun _ _ _=>rfl,fun _ _ h=>.inl h⟩,.pv _ _ (.tup [] #[] rfl (fun i x hx=>by simp at hx)),hS,hf,rfl,rfl,rfl⟩
 | row _ _ _ _ b nn cap hnm h2 h3 h4 h5=>
   subst hn
   rcases hR with ⟨_,_,hx⟩ | ⟨b',n',cs,q1,q2,q3,q4,q5,q6,q7⟩
   ·rw[hx] at hnm;cases hnm
   rw[hnm] at q1;cases q1
   have hcs:l.length*7<=cs.size:=by rw[q3];rw[dh] at q4;exact q4
   have cellAt:∀ (i j:Nat) (f:Fld) (q:PV),l[i]? = some f->j<7->(om f)[j]? = some q->ARel κ (.pv q) (cs.getD (i*7+j) Go.undef):=by
    intro i j f q hi hj hq
    refine q6 (i*7+j) _ ?_
    rw[jW l i j f hi hj,hq];rfl
   have hXe:∀ i,∃ x:FldC,x.name.data.toList=nmL l i/\(i<l.length->∀ j,j<7->(Ar x)[j]! = cs.getD (i*7+j) Go.undef):=by
    intro i
    by_cases hi:i<l.length
    ·obtain⟨f,hfi⟩:∃ f,l[i]? = some f:=⟨_,List.getElem?_eq_getElem hi⟩
     obtain⟨nm,⟨k,m,s,t,ls,fs⟩⟩:=f
     have a:=fun j q hj hq=>cellAt i j _ q hfi hj hq
     rw[vj] at a
     obtain⟨s0,a0,a0',_⟩:=eo (a 0 _ (by omega) rfl)
     have o1:=(a 1 _ (by omega) rfl).oneCell rfl
     have o2:=(a 2 _ (by omega) rfl).oneCell rfl
     have o3:=(a 3 _ (by omega) rfl).oneCell rfl
     have o4:=(a 4 _ (by omega) rfl).oneCell rfl
     have o5:=(a 5 _ (by omega) rfl).oneCell rfl
     have o6:=(a 6 _ (by omega) rfl).oneCell rfl
     refine⟨⟨s0,_,_,_,_,_,_,o1,o2,o3,o4,o5,o6⟩,?_,fun _ j hj=>?_⟩
     ·unfold nmL
      rw[List.getD_eq_getElem?_getD,hfi]
      exact a0'.symm
     ·match j,hj with
      | 0,_=>exact a0.symm
      | 1,_=>rfl
      | 2,_=>rfl
      | 3,_=>rfl
      | 4,_=>rfl
      | 5,_=>rfl
      | 6,_=>rfl
    ·exact⟨⟨⟨(nmL l i).toArray⟩,.int .i64 0,.int .i64 0,.int .i64 0,.int .i64 0,.int .i64 0,.int .i64 0,by decide⟩,by simp,fun h=>absurd h hi⟩
   obtain⟨X,hX⟩:=Classical.axiomOfChoice hXe
   have hblk:b<κ.w.heap.size:=(Array.getElem?_eq_some_iff.1 q2).1
   have hH:Sort.HoldsK (fun i=>Ar (X i)) 7 κ.w b 0 (Array.range l.length):=by
    intro t ht
    rw[Sort.size_flatK,Array.size_range] at ht
    rw[Sort.get_flatK _ _ _ t (by rw[Array.size_range];exact ht)]
    have ht7:t / 7<l.length:=by omega
    have er:(Array.range l.length)[t / 7]! = t / 7:=by rw[getElem!_pos _ _ (by simpa using ht7)];simp
    rw[er,(hX (t / 7)).2 ht7 (t % 7) (Nat.mod_lt _ (by omega)),show t / 7*7+t % 7=t by omega]
    have htc:t<cs.size:=by omega
    refine⟨?_,?_⟩
    ·simp[World.cell?,q2,Array.getD_eq_getD_getElem?,htc]
    ·simp[World.frozen?,q2]
   have hcmp:Go.Proofs.CmpLays Tryz.prog 113 #[] (fun i=>Ar (X i)) 7 (cfL l) b 0 (Array.range l.length).size κ.w:=by
    intro m os dk hdk x y
    have:=zq (X x) (X y) (Go.Proofs.sortWorldK (fun i=>Ar (X i)) 7 κ.w b 0 m dk os)
    rw[Tv,(hX x).1,(hX y).1] at this
    exact this
   have eg:∀ args w,(callFunc 113 args).run Tryz.prog w = .ok (.enter 113 args) w:=enters_of Tryz.func113 (by kernel_rfl) rfl
   have hc:=Go.Proofs.AnyQ.slices_SortFunc_eq (P:=Tryz.prog) (ρ:=Tryz.sortF_ren) Tryz.sortF 7 Tryz.isAgg83 Tryz.sizeOf83 (fun i=>Ar (X i)) (fun _=>rfl) (fun i v hv=>by
    obtain⟨g1,g2,g3,g4,g5,g6⟩:=(X i).one
    simp only[Ar,List.mem_cons,List.not_mem_nil,or_false] at hv
    rcases hv with rfl | rfl | rfl | rfl | rfl | rfl | rfl<;>first | rfl | assumption) (cfL l) (Sv l) 113 #[] b 0 cap (Array.range l.length) κ.w eg hcmp hH hblk (by rw[Array.size_range];omega)
   have hc':Calls Tryz.prog 112 #[.slice (some ⟨b,0,none⟩) l.length cap,.func (.func 113) #[] #[]] κ.w fun e w'=>e = .returned (.tuple #[])/\∃ m os,w'=Go.Proofs.sortWorldK (fun i=>Ar (X i)) 7 κ.w b 0 m (dN l) os:=by
    have e2:(Array.range l.length).size=l.length:=Array.size_range
    have:=hc
    rw[e2] at this
    unfold dN
    rw[e2]
    exact this
   refine hc'.mono ?_
   rintro e w' ⟨rfl,m,os,rfl⟩
   obtain⟨F,hF⟩:∃ F,F=Sort.flatK (fun i=>Ar (X i)) 7 (dN l):=⟨_,rfl⟩
   obtain⟨w1,hw1⟩:∃ w1,w1=Sort.putRow id (Sort.ahead κ.w m) b 0 F:=⟨_,rfl⟩
   have hFs:F.size=l.length*7:=by rw[hF,Sort.size_flatK,dU]
   have hheap:w1.heap=κ.w.heap.modify b (Sort.onCells (Sort.putCells id 0 F)):=by rw[hw1];rfl
   have hb1:w1.heap[b]? = some (.cells (Sort.putCells id 0 F cs) 83 (0,0)):=by
    rw[hheap,Array.getElem?_modify,if_pos rfl,q2];rfl
   have hother:∀ b',b'≠b->w1.heap[b']? = κ.w.heap[b']?:=by
    intro b' hb'
    rw[hheap,Array.getElem?_modify,if_neg (Ne.symm hb')]
   have hlent:(fun r=>lookB r (bW [Blk.cells 83 false (bA (l.map Fld.pv))] 0)) 0≠.none:=by rw[hσ];exact fun h=>by cases h
   obtain⟨k1,k2⟩:=GC hS (r0:=0) (b0:=b) (d0:=.blk b nn) (Bo:=.cells 83 false (bA ((srt l).map Fld.pv))) (w':=w1) 1
    (by rw[hw1];rfl) (by rw[hw1];rfl) (by rw[hw1];rfl) (by rw[hheap,Array.size_modify]) hother q7 hlent hnm rfl
   have hcs':(Sort.putCells id 0 F cs).size=nn:=by simp[Sort.putCells,q3]
   have hget:∀ t,t<l.length*7->(Sort.putCells id 0 F cs).getD t Go.undef=F[t]!:=by
    intro t ht
    have htc:t<cs.size:=by omega
    rw[Array.getD_eq_getD_getElem?]
    simp[Sort.putCells,Array.getElem?_mapIdx,htc,hFs,ht]
   have hB:eH ⟨w1,κ.nm,κ.imm⟩ 0 (.cells 83 false (bA ((srt l).map Fld.pv))):=by
    refine .inr ⟨b,nn,_,hnm,hb1,hcs',by rw[dh,ep];rw[dh] at q4;exact q4,(fun h=>by cases h),fun o x hx=>?_,q7⟩
    have ho:o<l.length*7:=by
     have:=(List.getElem?_eq_some_iff.1 hx).1
     rwa [dh,ep] at this
    have ho7:o / 7<(dN l).size:=by rw[dU];omega
    have hsr:(srt l)[o / 7]? = some (l.getD (dN l)[o / 7]! OP):=by
     unfold srt
     rw[List.getElem?_map,Array.getElem?_toList,Array.getElem?_eq_getElem ho7,getElem!_pos (dN l) (o / 7) ho7];rfl
    have hal:(dN l)[o / 7]! < l.length:=by
     rw[getElem!_pos (dN l) (o / 7) ho7]
     have:=(kO l).mem_iff.1 (Array.getElem_mem_toList ho7)
     simpa using this
    obtain⟨a,ha⟩:∃ a,a=(dN l)[o / 7]!:=⟨_,rfl⟩
    rw[<- ha] at hal hsr
    have hla:l[a]? = some (l.getD a OP):=by rw[List.getD_eq_getElem?_getD,List.getElem?_eq_getElem hal];rfl
    have hxa:=jW (srt l) (o / 7) (o % 7) _ hsr (Nat.mod_lt _ (by omega))
    rw[show o / 7*7+o % 7=o by omega,hx] at hxa
    have hxl:=jW l a (o % 7) _ hla (Nat.mod_lt _ (by omega))
    rw[<- hxa] at hxl
    have hrel:=q6 _ _ hxl
    rw[hget o ho,hF,Sort.get_flatK _ _ _ o (by rw[dU];exact ho),<- ha,(hX a).2 hal (o % 7) (Nat.mod_lt _ (by omega))]
    exact hrel.ext k1.ext
   have hS1:=k2 hB
   obtain⟨g1,g2,g3⟩:=SRel.grow hS1 (Go.Proofs.sortWorldK (fun i=>Ar (X i)) 7 κ.w b 0 m (dN l) os) os (by
    show _=Sort.grow w1 os
    rw[hw1,hF];rfl) k1.size
   have hL0:Go.Ab.Left (cl κ (fun r=>lookB r (bW [Blk.cells 83 false (bA (l.map Fld.pv))] 0)) G) κ.imm κ:=⟨rfl,rfl,rfl,Nat.le_refl _,fun _ _ _=>rfl,fun _ _ h=>.inl h⟩
   have hσ':(au.set (fun r=>lookB r (bW [Blk.cells 83 false (bA (l.map Fld.pv))] 0)) 0 (.cells 83 false (bA ((srt l).map Fld.pv))))=fun r=>lookB r (bW [Blk.cells 83 false (bA ((srt l).map Fld.pv))] 0):=by
    funext r
    by_cases hr:r=0
    ·subst hr;rfl
    ·simp only[au.set,hr,if_false,bW,lookB]
     rw[if_neg (fun e=>hr e.symm),if_neg (fun e=>hr e.symm)]
   rw[hσ'] at g2
   exact⟨_,.pv (.tup []),_,_,1,rfl,rfl,(κ.cut_ext 1).trans (k1.ext.trans g1),g3 _ (k1.left _ hL0),.pv _ _ (.tup [] #[] rfl (fun i x hx=>by simp at hx)),g2,hf,rfl,rfl,rfl⟩
attribute [local irreducible] vc
def nM (nm:List UInt8)(g:Fld):Bool:=decide (g.name=nm)&&!bf g.value
def Eg (nm:List UInt8)(k n s:Int)(t:List UInt8)(l:List Val)(f:List Fld):List AV:=[.pv (.str nm),.pv (.int .i64 k),.pv (.int .i64 n),.pv (.int .i64 s),.pv (.str t),.pv (.list (l.map Val.pv)),.pv (.list (f.map Fld.pv))]
section
variable (nm:List UInt8)(k n s:Int)(t:List UInt8)(l:List Val)(f:List Fld)
theorem Q8 (g:Fld):bF Tryz.prog aq 1 110 [.pv g.pv,.ptr 0 0] [.cells 83 true (Eg nm k n s t l f)] (.pv (.bool (nM nm g))) [.cells 83 true (Eg nm k n s t l f)]:=by
 obtain⟨nm',v⟩:=g
 have hN:=sG v
 rw[show nM nm (.mk nm' v)=(decide (nm'=nm)&&!bf v) from rfl]
 generalize bf v=B at *
 obtain⟨k',n',s',t',l',f'⟩:=v
 simp only[Val.pv_mk] at hN
 by_cases h1:nm'=nm
 ·rw[decide_eq_true h1,Bool.true_and]
  refine bF.intro K7.2 (by simp[K7]) ?_
  simp(disch:=try exact dI) only[K7,Fld.pv_mk,Val.pv_mk,h1,Eg,ag,List.cons_append,List.nil_append,push_cast,seval]
  refine ab.pure hN rfl ?_
  refine zgZ ?_
  exact aE [] qsZ
 ·rw[decide_eq_false h1,Bool.false_and]
  refine bF.intro K7.2 (by simp[K7]) ?_
  simp(disch:=try exact dI) only[K7,Fld.pv_mk,Val.pv_mk,h1,Eg,ag,List.cons_append,List.nil_append,push_cast,seval]
  exact aE [] qsZ
theorem IF (L:List Fld)(hl:L.length<=9000000000000) :
  bF Tryz.prog aq 1 151 [.pv (.list (L.map Fld.pv)),.clo 110 [] [.ptr 0 0]] [.cells 83 true (Eg nm k n s t l f)] (.pv (.int .i64 (eZ (nM nm) L 0))) [.cells 83 true (Eg nm k n s t l f)]:=by
 have hq:=fun x=>Q8 nm k n s t l f x
 generalize nM nm=q at *
 simp only[Eg] at hq ⊢
 refine bF.intro K2.2 (by simp[K2]) ?_
 simp(disch:=try exact dI) only[K2,push_cast,seval]
 refine ap ([]) (fun m:Nat=>[(8,.pv (.int .i64 (m:Int)))]) (fun m=>[]) (fun m=>m<=L.length/\eZ q L 0=eZ q (L.drop m) m) (fun m=>L.length - m) (0) ?_;intro e0 σ0 n0 h0;simp(disch:=try exact dI) only[push_cast,seval] at h0;obtain⟨rfl,rfl,rfl⟩:=h0;refine⟨?_,?_,?_⟩
 ·exact qsZ
 ·exact⟨by omega,by simp⟩
 ·rintro m ⟨hm,he⟩
  by_cases hlt:m<L.length
  ·have hltI:(m:Int)<L.length:=by omega
   obtain⟨x,hx⟩:∃ x,L[m]? = some x:=⟨_,List.getElem?_eq_getElem hlt⟩
   have hcall:=hq x
   simp(disch:=try exact dI) only[hx,Fld.cells_len,Fld.isAgg,push_cast,seval]
   refine ab.lentK hcall [0] rfl qsZ qsZ ?_
   cases hqx:q x with
   | true=>
     rw[he,fq hx hqx]
     refine zgZ ?_
     exact aE [] qsZ
   | false=>
     rw[dG hx hqx] at he
     refine zgZ ?_
     exact⟨m+1,aK qsZ,⟨by omega,he⟩,by omega⟩
  ·have hltI:¬ (m:Int)<L.length:=by omega
   rw[he,ft hlt]
   refine zgZ ?_
   exact aE [] qsZ
theorem tH (L:List Fld)(hl:L.length<=9000000000000)(hno:L.any (nM nm)=false) :
  bF Tryz.prog aq 1 109 [.pv (.list (L.map Fld.pv)),.clo 110 [] [.ptr 0 0]] [.cells 83 true (Eg nm k n s t l f)] (.pv (.bool false)) [.cells 83 true (Eg nm k n s t l f)]:=by
 have h94:=IF nm k n s t l f L hl
 have hfa:=io (p:=nM nm) L
 rw[hno] at hfa
 simp only[Eg] at h94 ⊢
 refine bF.intro RZ.2 (by simp[RZ]) ?_
 rcases ck (p:=nM nm) L 0 with ⟨h1,h2⟩ | ⟨k,x,h1,h2,h3⟩
 ·rw[h2] at h94
  simp(disch:=try exact dI) only[RZ,push_cast,seval]
  refine ab.lentK h94 [0] rfl qsZ qsZ ?_
  refine zgZ ?_
  exact aE [] qsZ
 ·rw[h2] at hfa;cases hfa
end
theorem Us (l:List Fld)(i:Nat):pO 7 (l.map Fld.pv) l.length (some i)=some (.pv (.list ((l.drop i).map Fld.pv))):=by
 have hs:Ke 7 (l.map Fld.pv) i=true:=by
  cases i with
  | zero=>rfl
  | succ a=>
    unfold Ke
    simp only[List.getElem?_map]
    cases l[a+1]? with
    | none=>rfl
    | some x=>simp[Fld.cells_len]
 rw[mW hs,List.take_of_length_le (by rw[List.length_map];exact Nat.le_refl _),List.map_drop]
theorem Nx (x:Fld):∃ cs,x.pv = .agg cs/\cs.length=7/\∀ q∈cs,q.one=true:=by
 obtain⟨nm,⟨k,n,s,t,l,fs⟩⟩:=x
 refine⟨_,by rw[Fld.pv_mk,Val.pv_mk],rfl,fun q hq=>?_⟩
 simp only[PV.cells,List.cons_append,List.nil_append,List.mem_cons,List.not_mem_nil,or_false] at hq
 rcases hq with rfl | rfl | rfl | rfl | rfl | rfl | rfl<;>rfl
theorem TF (l:List Fld)(hl:l.length<=65540)(nm:List UInt8)(w1 w2 w3:Int)(w4:List UInt8)(w5:List Val)(w6:List Fld)(new q:Nat) :
  oC 83 7 104 new q 7 0 l.length [.agg [.str nm,.int .i64 w1,.int .i64 w2,.int .i64 w3,.str w4,.list (w5.map Val.pv),.list (w6.map Fld.pv)]] (.cells 83 false (bA (l.map Fld.pv))) =
   some (.row new 7 0 (l.length+1),[(q,.none),(new,.cells 83 false (bA ((l++[Fld.mk nm (.mk w1 w2 w3 w4 w5 w6)]).map Fld.pv)))]):=by
 rw[j5 (by rw[dh];exact Nat.le_refl _) (by simp;omega) (by simp;omega),List.take_of_length_le (by rw[dh];exact Nat.le_refl _)]
 have e:bA ((l++[Fld.mk nm (.mk w1 w2 w3 w4 w5 w6)]).map Fld.pv)=bA (l.map Fld.pv)++bA [.agg [.str nm,.int .i64 w1,.int .i64 w2,.int .i64 w3,.str w4,.list (w5.map Val.pv),.list (w6.map Fld.pv)]]:=by
  simp only[bA,List.map_append,List.flatMap_append,List.map_cons,List.map_nil]
  rw[Fld.pv_mk,Val.pv_mk];rfl
 rw[e];rfl
def ce (x:Fld):Bool:=!bf x.value
def oJ (l:List Fld):Val:=.mk 9 0 0 [] [] (srt (l.filter ce))
def l7 (l:List Fld):Prop:=(l.map Fld.name).Nodup
theorem CW {l:List Fld}(h:l7 l){i:Nat}{x:Fld}(hx:l[i]? = some x):(l.drop (i+1)).any (nM x.name)=false:=by
 rw[List.any_eq_false]
 intro y hy
 unfold nM
 have hne:y.name≠x.name:=by
  intro e
  obtain⟨j,hj,hyj⟩:=List.getElem_of_mem hy
  have hxi:i<l.length:=(List.getElem?_eq_some_iff.1 hx).1
  have hxe:l[i]=x:=(List.getElem?_eq_some_iff.1 hx).2
  rw[List.length_drop] at hj
  rw[List.getElem_drop] at hyj
  have h1:=List.pairwise_iff_getElem.1 h i (i+1+j) (by simpa using hxi) (by rw[List.length_map];omega) (by omega)
  simp only[List.getElem_map] at h1
  rw[hxe,hyj] at h1
  exact h1 e.symm
 simp[hne]
theorem tq {l:List Fld}{i:Nat}{x:Fld}(hx:l[i]? = some x):(l.take (i+1)).filter ce=if ce x=true then (l.take i).filter ce++[x] else (l.take i).filter ce:=by
 rw[aD hx,List.filter_append]
 split
 ·rename_i h;simp[h]
 ·rename_i h;simp[h]
theorem G5 (l:List Fld)(hl:l.length<=65000)(hok:∀ x∈l,x.ok)(hnd:l7 l):ak Tryz.prog aq 59 [.list (l.map Fld.pv)] (oJ l).pv:=by
 have hfl:∀ i,((l.take i).filter ce).length<=65000:=fun i=>Nat.le_trans (List.length_filter_le _ _) (by rw[List.length_take];omega)
 have hF:(l.filter ce).length<=65000:=Nat.le_trans (List.length_filter_le _ _) hl
 have hcl:ak Tryz.prog aq 58 [(oJ l).pv] (oJ l).pv:=by
  refine ix _ _ (Nat.lt_succ_self _) ?_
  unfold oJ
  rw[Val.ok_mk]
  refine⟨⟨by omega,by omega⟩,⟨by omega,by omega⟩,⟨by omega,by omega⟩,by simp,by simp,by simp,by rw[ep];omega,fun x hx=>?_⟩
  exact hok x (List.mem_filter.1 ((fJ _).mem_iff.1 hx)).1
 have hsort:=LH (G:=aq) (l.filter ce) (by omega)
 have hsl:=ep (l.filter ce)
 have hfz:=fun (n r:Nat) (hn:n=(srt (l.filter ce)).length)=>I7 (sz:=7) (f:=Fld.pv) Nx (by omega) (srt (l.filter ce)) (n:=n) (r:=r) (T:=83) (b:=false) hn
 unfold oJ at hcl ⊢
 refine ak.intro OB.2 (by simp[OB]) ?_
 simp(disch:=try exact dI) only[OB,push_cast,seval]
 refine ap ([(3,6,1000083,7)]) (fun i:Nat=>[(10,.pv (.int .i64 (i:Int)))]) (fun i=>[(1,.cells 31 true [.pv (.int .i64 9),.pv (.int .i64 0),.pv (.int .i64 0),.pv (.str []),.pv .nils,.row 2 7 0 ((l.take i).filter ce).length]),(2,.cells 83 false (bA (((l.take i).filter ce).map Fld.pv)))]) (fun i=>i<=l.length) (fun i=>l.length - i) (0) ?_;intro e0 σ0 n0 h0;simp(disch:=try exact dI) only[push_cast,seval] at h0;obtain⟨rfl,rfl,rfl⟩:=h0;refine⟨?_,?_,?_⟩
 ·simp(disch:=try exact dI) only[bA,List.flatMap_nil,List.take_zero,List.filter_nil,List.map_nil,List.length_nil,push_cast,seval]
 ·omega
 rintro i hi
 by_cases hlt:i<l.length
 ·have hltI:(i:Int)<(l.length:Int):=by omega
  obtain⟨x,hx⟩:∃ x,l[i]? = some x:=⟨_,List.getElem?_eq_getElem hlt⟩
  have hno:=CW hnd hx
  have hfs:=tq hx
  have hN:=sG x.value
  have hli:=hfl i
  have hkp:ce x=!bf x.value:=rfl
  generalize bf x.value=B at *
  obtain⟨nm,⟨vk,vn,vs,vt,vl,vf⟩⟩:=x
  have hc:=tH nm vk vn vs vt vl vf (l.drop (i+1)) (by rw[List.length_drop];omega) hno
  simp only[Fld.value,Val.pv_mk,Eg] at hN hc
  have hcut:=Us l (i+1)
  rw[hkp] at hfs
  have ha:=TF ((l.take i).filter ce) (by omega) nm vk vn vs vt vl vf
  generalize (l.take i).filter ce=K at *
  simp(disch:=try exact dI) only[hx,Option.map_some,Fld.pv_mk,Val.pv_mk,ag,hcut,push_cast,seval]
  refine ab.lentK hc [4] rfl qsZ qsZ ?_
  refine zgZ ?_
  refine ab.pure hN rfl ?_
  cases B with
  | true=>
    rw[if_neg (by decide)] at hfs
    refine zgZ ?_
    exact⟨i+1,aK (by simp(disch:=try exact dI) only[hfs,push_cast,seval]),by omega,by omega⟩
  | false=>
    rw[if_pos (by decide)] at hfs
    simp(disch:=try exact dI) only[ha,push_cast,seval]
    exact⟨i+1,aK (by simp(disch:=try exact dI) only[hfs,List.length_append,push_cast,seval]),by omega,by omega⟩
 ·obtain rfl:i=l.length:=by omega
  rw[List.take_length]
  simp only[Val.pv_mk,List.map_nil] at hcl ⊢
  rw[hsl] at hfz
  generalize srt (l.filter ce)=S at *
  generalize l.filter ce=K at *
  simp(disch:=try exact dI) only[Int.lt_irrefl,push_cast,seval]
  have hcl2:ak Tryz.prog aq 58 [.agg [.int .i64 9,.int .i64 0,.int .i64 0,.str [],.nils,.list (S.map Fld.pv)]] _:=hcl.nz (.cons _ _ _ _ (.agg _ _ (.cons _ _ _ _ (.refl _) (.cons _ _ _ _ (.refl _) (.cons _ _ _ _ (.refl _) (.cons _ _ _ _ (.refl _) (.cons _ _ _ _ .nils (.cons _ _ _ _ (.refl _) .nil))))))) .nil)
  refine ab.lentK hsort [2] rfl qsZ qsZ ?_
  simp(disch:=try exact dI) only[hfz,push_cast,seval]
  refine ab.pure hcl2 rfl ?_
  exact qsZ
end Go.Proofs.YtbaaokocnegdoaaGreatDoor
