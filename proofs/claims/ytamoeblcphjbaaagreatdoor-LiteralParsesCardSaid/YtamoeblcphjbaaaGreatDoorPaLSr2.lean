/- A part of the proof. -/
import Derived.Shelf.SlSortCmp.NoneTotal
import Derived.Test.YtamoeblcphjbaaaGreatDoorPaLP9
set_option maxHeartbeats 16000000
set_option maxRecDepth 100000
set_option linter.unusedVariables false
set_option linter.unusedSimpArgs false
namespace Go.Proofs.YtamoeblcphjbaaaGreatDoor
open Go Go.Ab Go.RowKit
def Me:Fld:=.mk [] (.mk 0 0 0 [] [] [])
def nmL (l:List Fld)(i:Nat):List UInt8:=(l.getD i Me).name
def cfL (l:List Fld)(i j:Nat):Int:=Lib.compareBytes (nmL l i) (nmL l j)
def lB (l:List Fld):Array Nat:=Sort.pdq (Go.Proofs.ltOf (cfL l)) (Array.range l.length) 0 (Array.range l.length).size (Lib.bitLen (Array.range l.length).size) true true
def srt (l:List Fld):List Fld:=(lB l).toList.map fun i=>l.getD i Me
theorem jO:∀ (a b c:List UInt8),Lib.compareBytes a b<0→Lib.compareBytes b c<0→Lib.compareBytes a c<0
 | [],b,[],h1,h2=>by
   cases b with
   | nil=>exact h2
   | cons x q=>simp[Lib.compareBytes] at h2
 | [],b,z::r,h1,h2=>by simp[Lib.compareBytes]
 | x::p,[],c,h1,h2=>by simp[Lib.compareBytes] at h1
 | x::p,y::q,[],h1,h2=>by simp[Lib.compareBytes] at h2
 | x::p,y::q,z::r,h1,h2=>by
   have ih:=jO p q r
   simp only[Lib.compareBytes,UInt8.lt_iff_toNat_lt] at *
   repeat' split at h1
   all_goals repeat' split at h2
   all_goals repeat' split
   all_goals first | omega | exact ih h1 h2 | (exfalso;omega)
theorem pT:∀ (a b c:List UInt8),¬ Lib.compareBytes a b<0→¬ Lib.compareBytes b c<0→¬ Lib.compareBytes a c<0
 | [],[],c,h1,h2=>h2
 | [],y::q,c,h1,h2=>by simp[Lib.compareBytes] at h1
 | x::p,b,[],h1,h2=>by simp[Lib.compareBytes]
 | x::p,[],z::r,h1,h2=>by simp[Lib.compareBytes] at h2
 | x::p,y::q,z::r,h1,h2=>by
   have ih:=pT p q r
   simp only[Lib.compareBytes,UInt8.lt_iff_toNat_lt] at *
   repeat' split at h1
   all_goals repeat' split at h2
   all_goals repeat' split
   all_goals first | omega | exact ih h1 h2 | (exfalso;omega)
theorem r8:∀ a:List UInt8,Lib.compareBytes a a=0
 | []=>rfl
 | x::p=>by
   have:=r8 p
   simp only[Lib.compareBytes,UInt8.lt_iff_toNat_lt]
   rw[if_neg (by omega),if_neg (by omega)];exact this
theorem QE (l:List Fld):Sort.SWO (Go.Proofs.ltOf (cfL l)) where
 irrefl x:=decide_eq_false (by rw[cfL,r8];decide)
 trans x y z h1 h2:=decide_eq_true (jO _ _ _ (of_decide_eq_true h1) (of_decide_eq_true h2))
 ntrans x y z h1 h2:=decide_eq_false (pT _ _ _ (of_decide_eq_false h1) (of_decide_eq_false h2))
theorem kf (l:List Fld):(lB l).toList.Perm (List.range l.length):=by
 have h:=(Sort.pdq_sorts (Go.Proofs.ltOf (cfL l)) (QE l) (Array.range l.length) 0 (Array.range l.length).size (Lib.bitLen (Array.range l.length).size) true true (Nat.zero_le _) (Nat.le_refl _) (Or.inl rfl)).1
 obtain⟨h1,_,h3⟩:=h
 have e1:(lB l).size=(Array.range l.length).size:=h1
 have h4:((lB l).extract 0 (Array.range l.length).size).toList.Perm ((Array.range l.length).extract 0 (Array.range l.length).size).toList:=h3
 simp only[Array.size_range] at e1
 simp only[Array.size_range,Array.toList_extract,List.extract_eq_take_drop,List.drop_zero,Nat.sub_zero,Array.toList_range] at h4
 rw[List.take_of_length_le (by simp[e1]),List.take_of_length_le (by simp)] at h4
 exact h4
theorem rg (l:List Fld):Sort.SortedIn (Go.Proofs.ltOf (cfL l)) 0 (Array.range l.length).size (lB l):=
 (Sort.pdq_sorts (Go.Proofs.ltOf (cfL l)) (QE l) (Array.range l.length) 0 (Array.range l.length).size (Lib.bitLen (Array.range l.length).size) true true (Nat.zero_le _) (Nat.le_refl _) (Or.inl rfl)).2
theorem d9 (l:List Fld):(lB l).size=l.length:=by
 have:=(kf l).length_eq
 simpa using this
theorem iw (l:List Fld):(srt l).length=l.length:=by
 unfold srt;rw[List.length_map,Array.length_toList,d9]
theorem lC:∀ (l:List Fld),(List.range l.length).map (fun i=>l.getD i Me)=l:=by
 intro l
 apply List.ext_getElem
 ·simp
 ·intro i h1 h2
  simp[List.getD_eq_getElem?_getD,List.getElem?_eq_getElem h2]
theorem ta (l:List Fld):(srt l).Perm l:=by
 have:=(kf l).map fun i=>l.getD i Me
 rwa [lC] at this
theorem vu (l:List Fld)(i j:Nat)(x y:Fld)(hij:i<j)(hx:(srt l)[i]? = some x)(hy:(srt l)[j]? = some y):¬ Lib.compareBytes y.name x.name<0:=by
 have hj:j<(lB l).size:=by
  have:=(List.getElem?_eq_some_iff.1 hy).1
  rw[iw] at this;rw[d9];exact this
 have hs:=rg l i j (Nat.zero_le _) hij (by simp;rw[← d9];exact hj)
 unfold srt at hx hy
 rw[List.getElem?_map,Option.map_eq_some_iff] at hx hy
 obtain⟨a,ha,rfl⟩:=hx
 obtain⟨b,hb,rfl⟩:=hy
 have ea:(lB l)[i]! = a:=by
  have:(lB l)[i]? = some a:=by simpa using ha
  rw[getElem!_def,this]
 have eb:(lB l)[j]! = b:=by
  have:(lB l)[j]? = some b:=by simpa using hb
  rw[getElem!_def,this]
 rw[ea,eb] at hs
 simpa[Go.Proofs.ltOf,cfL,nmL] using hs
theorem SRel.grow {c:Ctx}{κ:Kap}{σ:aw}(hS:SRel c κ σ)(w':World)(os:Array Obj)(h:w'=Sort.grow κ.w os)(hc:c.w0.heap.size≤κ.w.heap.size) :
  Ext κ ⟨w',κ.nm,κ.imm⟩∧SRel c ⟨w',κ.nm,κ.imm⟩ σ∧∀ imm0,Go.Ab.Left c imm0 κ→Go.Ab.Left c imm0 ⟨w',κ.nm,κ.imm⟩:=by
 have hb:∀ b,b<κ.w.heap.size→w'.heap[b]? = κ.w.heap[b]?:=by
  intro b hb
  rw[h]
  show (κ.w.heap++os)[b]? = _
  rw[Array.getElem?_append,if_pos hb]
 have hsz:κ.w.heap.size≤w'.heap.size:=by rw[h];show _≤(κ.w.heap++os).size;simp
 have he:Ext κ ⟨w',κ.nm,κ.imm⟩:=by
  refine⟨fun _ _ h=>h,fun b o v hi hcl=>?_,fun _ _ h=>h,fun b o ho _=>?_⟩
  ·have:=hb b (hS.immLt b o hi)
   simpa[World.cell?,this] using hcl
  ·exact (hb b (Array.getElem?_eq_some_iff.1 ho).1).trans ho
 refine⟨he,⟨fun r=>?_,hS.apart,hS.mine,fun b o hi=>Nat.lt_of_lt_of_le (hS.immLt b o hi) hsz,?_⟩,fun imm0 hL=>⟨?_,?_,?_,Nat.le_trans hL.size hsz,fun b hlt hl=>(hb b (Nat.lt_of_lt_of_le hlt hc)).trans (hL.block b hlt hl),hL.imm⟩⟩
 ·exact (hS.blk r).keep he fun hz d b hd hbk=>⟨hb b ((hS.blk r).lt hz hd hbk),fun o ho=>ho⟩
 ·exact SRel.glob_ext he hS.glob fun g h1 h2=>hb g (Nat.lt_of_lt_of_le h1 hc)
 ·show w'.os=_;rw[h];exact hL.os
 ·show w'.tape=_;rw[h];exact hL.tape
 ·show w'.output=_;rw[h];exact hL.output
def nu (f:Fld):List PV:=f.pv.cells
theorem ur (nm:List UInt8)(k n s:Int)(t:List UInt8)(l:List Val)(fs:List Fld):nu (.mk nm (.mk k n s t l fs))=[.str nm,.int .i64 k,.int .i64 n,.int .i64 s,.str t,.list (l.map Val.pv),.list (fs.map Fld.pv)]:=by
 unfold nu;rw[Fld.pv_mk,Val.pv_mk];rfl
theorem gW (f:Fld):(nu f).length=7:=by
 obtain⟨nm,⟨k,n,s,t,l,fs⟩⟩:=f
 rw[ur];rfl
theorem jH:∀ (l:List Fld) (i j:Nat) (f:Fld),l[i]? = some f→j<7→(bK (l.map Fld.pv))[i*7+j]? = ((nu f)[j]?).map AV.pv
 | [],i,j,f,h,_=>by simp at h
 | x::r,0,j,f,h,hj=>by
   simp only[List.getElem?_cons_zero,Option.some.injEq] at h
   subst h
   have:bK ((x::r).map Fld.pv)=(nu x).map AV.pv++bK (r.map Fld.pv):=by simp[bK,nu]
   rw[this,List.getElem?_append_left (by rw[List.length_map,gW];omega),Nat.zero_mul,Nat.zero_add,List.getElem?_map]
 | x::r,i+1,j,f,h,hj=>by
   have:bK ((x::r).map Fld.pv)=(nu x).map AV.pv++bK (r.map Fld.pv):=by simp[bK,nu]
   rw[this,List.getElem?_append_right (by rw[List.length_map,gW];omega),List.length_map,gW,show (i+1)*7+j - 7=i*7+j by omega]
   exact jH r i j f (by simpa using h) hj
theorem dp (l:List Fld):(bK (l.map Fld.pv)).length=l.length*7:=jd (fun f=>gW f) l
theorem Ia {G:Nat→List PV}(l:List Fld)(hl:l.length≤1000000) :
  aF Tryz.prog G 1 167 [.row 0 7 0 l.length,.pv (.clo 168 [] [])] [.cells 39 false (bK (l.map Fld.pv))] (.pv (.tup [])) [.cells 39 false (bK ((srt l).map Fld.pv))]:=by
 refine⟨by kernel_rfl,fun κ vals hS hf hsz hargs=>?_⟩
 have hv:=sO hsz
 have h0:=hargs 0 _ rfl
 have h1:=hargs 1 _ rfl
 generalize vals.getD 0 Go.undef=v0 at *
 generalize vals.getD 1 Go.undef=v1 at *
 subst hv
 have e1:v1 = .func (.func 168) #[] #[]:=by
  have h2:=aL h1
  cases h2 with
  | clo _ _ _ vs us g1 g2 g3 g4=>
    obtain rfl:vs = #[]:=by apply Array.eq_empty_of_size_eq_zero;simpa using g1
    obtain rfl:us = #[]:=by apply Array.eq_empty_of_size_eq_zero;simpa using g3
    rfl
 subst e1
 have hσ:(fun r=>lookB r (bW [Blk.cells 39 false (bK (l.map Fld.pv))] 0)) 0 = .cells 39 false (bK (l.map Fld.pv)):=rfl
 have hR:eM κ 0 (.cells 39 false (bK (l.map Fld.pv))):=hS.blk 0
 generalize hn:l.length=n at h0
 cases h0 with
 | row0=>
   obtain rfl:l=[]:=List.eq_nil_of_length_eq_zero hn
   have hc:=Go.Proofs.AnyF.slices_SortFunc_none (P:=Tryz.prog) (ρ:=Tryz.sortF_ren) { Tryz.sortF with } none 0 (.func (.func 168) #[] #[]) κ.w
   refine Calls.mono (show Calls Tryz.prog 167 #[.slice none 0 0,.func (.func 168) #[] #[]] κ.w _ from hc) ?_
   rintro e w' ⟨rfl,rfl⟩
   have hs:srt []=[]:=List.eq_nil_of_length_eq_zero (by rw[iw];rfl)
   rw[hs]
   exact⟨_,.pv (.tup []),κ,_,1,rfl,rfl,κ.cut_ext 1,⟨rfl,rfl,rfl,Nat.le_refl _,fun _ _ _=>rfl,fun _ _ h=>.inl h⟩,.pv _ _ (.tup [] #[] rfl (fun i x hx=>by simp at hx)),hS,hf,rfl,rfl,rfl⟩
 | row _ _ _ _ b nn cap hnm h2 h3 h4 h5=>
   subst hn
   rcases hR with ⟨_,_,hx⟩ | ⟨b',n',cs,q1,q2,q3,q4,q5,q6,q7⟩
   ·rw[hx] at hnm;cases hnm
   rw[hnm] at q1;cases q1
   have hcs:l.length*7≤cs.size:=by rw[q3];rw[dp] at q4;exact q4
   have cellAt:∀ (i j:Nat) (f:Fld) (q:PV),l[i]? = some f→j<7→(nu f)[j]? = some q→ARel κ (.pv q) (cs.getD (i*7+j) Go.undef):=by
    intro i j f q hi hj hq
    refine q6 (i*7+j) _ ?_
    rw[jH l i j f hi hj,hq];rfl
   have hXe:∀ i,∃ x:FldC,x.name.data.toList=nmL l i∧(i<l.length→∀ j,j<7→(xz x)[j]! = cs.getD (i*7+j) Go.undef):=by
    intro i
    by_cases hi:i<l.length
    ·obtain⟨f,hfi⟩:∃ f,l[i]? = some f:=⟨_,List.getElem?_eq_getElem hi⟩
     obtain⟨nm,⟨k,m,s,t,ls,fs⟩⟩:=f
     have a:=fun j q hj hq=>cellAt i j _ q hfi hj hq
     rw[ur] at a
     obtain⟨s0,a0,a0',_⟩:=dQ (a 0 _ (by omega) rfl)
     have o1:=(a 1 _ (by omega) rfl).oneCell rfl
     have o2:=(a 2 _ (by omega) rfl).oneCell rfl
     have o3:=(a 3 _ (by omega) rfl).oneCell rfl
     have o4:=(a 4 _ (by omega) rfl).oneCell rfl
     have o5:=(a 5 _ (by omega) rfl).oneCell rfl
     have o6:=(a 6 _ (by omega) rfl).oneCell rfl
     refine⟨⟨s0,_,_,_,_,_,_,o1,o2,o3,o4,o5,o6⟩,?_,fun _ j hj=>?_⟩
     ·unfold nmL
      rw[List.getD_eq_getElem?_getD,hfi]
      exact a0'.symm
     ·match j,hj with
      | 0,_=>exact a0.symm
      | 1,_=>rfl
      | 2,_=>rfl
      | 3,_=>rfl
      | 4,_=>rfl
      | 5,_=>rfl
      | 6,_=>rfl
    ·exact⟨⟨⟨(nmL l i).toArray⟩,.int .i64 0,.int .i64 0,.int .i64 0,.int .i64 0,.int .i64 0,.int .i64 0,by decide⟩,by simp,fun h=>absurd h hi⟩
   obtain⟨X,hX⟩:=Classical.axiomOfChoice hXe
   have hblk:b<κ.w.heap.size:=(Array.getElem?_eq_some_iff.1 q2).1
   have hH:Sort.HoldsK (fun i=>xz (X i)) 7 κ.w b 0 (Array.range l.length):=by
    intro t ht
    rw[Sort.size_flatK,Array.size_range] at ht
    rw[Sort.get_flatK _ _ _ t (by rw[Array.size_range];exact ht)]
    have ht7:t / 7<l.length:=by omega
    have er:(Array.range l.length)[t / 7]! = t / 7:=by rw[getElem!_pos _ _ (by simpa using ht7)];simp
    rw[er,(hX (t / 7)).2 ht7 (t % 7) (Nat.mod_lt _ (by omega)),show t / 7*7+t % 7=t by omega]
    have htc:t<cs.size:=by omega
    refine⟨?_,?_⟩
    ·simp[World.cell?,q2,Array.getD_eq_getD_getElem?,htc]
    ·simp[World.frozen?,q2]
   have hcmp:Go.Proofs.CmpLays Tryz.prog 168 #[] (fun i=>xz (X i)) 7 (cfL l) b 0 (Array.range l.length).size κ.w:=by
    intro m os dk hdk x y
    have:=wY (X x) (X y) (Go.Proofs.sortWorldK (fun i=>xz (X i)) 7 κ.w b 0 m dk os)
    rw[RF,(hX x).1,(hX y).1] at this
    exact this
   have eg:∀ args w,(callFunc 168 args).run Tryz.prog w = .ok (.enter 168 args) w:=enters_of Tryz.func168 (by kernel_rfl) rfl
   have hc:=Go.Proofs.AnyQ.slices_SortFunc_eq (P:=Tryz.prog) (ρ:=Tryz.sortF_ren) Tryz.sortF 7 Tryz.isAgg39 Tryz.sizeOf39 (fun i=>xz (X i)) (fun _=>rfl) (fun i v hv=>by
    obtain⟨g1,g2,g3,g4,g5,g6⟩:=(X i).one
    simp only[xz,List.mem_cons,List.not_mem_nil,or_false] at hv
    rcases hv with rfl | rfl | rfl | rfl | rfl | rfl | rfl<;>first | rfl | assumption) (cfL l) (QE l) 168 #[] b 0 cap (Array.range l.length) κ.w eg hcmp hH hblk (by rw[Array.size_range];omega)
   have hc':Calls Tryz.prog 167 #[.slice (some ⟨b,0,none⟩) l.length cap,.func (.func 168) #[] #[]] κ.w fun e w'=>e = .returned (.tuple #[])∧∃ m os,w'=Go.Proofs.sortWorldK (fun i=>xz (X i)) 7 κ.w b 0 m (lB l) os:=by
    have e2:(Array.range l.length).size=l.length:=Array.size_range
    have:=hc
    rw[e2] at this
    unfold lB
    rw[e2]
    exact this
   refine hc'.mono ?_
   rintro e w' ⟨rfl,m,os,rfl⟩
   obtain⟨F,hF⟩:∃ F,F=Sort.flatK (fun i=>xz (X i)) 7 (lB l):=⟨_,rfl⟩
   obtain⟨w1,hw1⟩:∃ w1,w1=Sort.putRow id (Sort.ahead κ.w m) b 0 F:=⟨_,rfl⟩
   have hFs:F.size=l.length*7:=by rw[hF,Sort.size_flatK,d9]
   have hheap:w1.heap=κ.w.heap.modify b (Sort.onCells (Sort.putCells id 0 F)):=by rw[hw1];rfl
   have hb1:w1.heap[b]? = some (.cells (Sort.putCells id 0 F cs) 39 (0,0)):=by
    rw[hheap,Array.getElem?_modify,if_pos rfl,q2];rfl
   have hother:∀ b',b'≠b→w1.heap[b']? = κ.w.heap[b']?:=by
    intro b' hb'
    rw[hheap,Array.getElem?_modify,if_neg (Ne.symm hb')]
   have hlent:(fun r=>lookB r (bW [Blk.cells 39 false (bK (l.map Fld.pv))] 0)) 0≠.none:=by rw[hσ];exact fun h=>by cases h
   obtain⟨k1,k2⟩:=vq hS (r0:=0) (b0:=b) (d0:=.blk b nn) (Bo:=.cells 39 false (bK ((srt l).map Fld.pv))) (w':=w1) 1
    (by rw[hw1];rfl) (by rw[hw1];rfl) (by rw[hw1];rfl) (by rw[hheap,Array.size_modify]) hother q7 hlent hnm rfl
   have hcs':(Sort.putCells id 0 F cs).size=nn:=by simp[Sort.putCells,q3]
   have hget:∀ t,t<l.length*7→(Sort.putCells id 0 F cs).getD t Go.undef=F[t]!:=by
    intro t ht
    have htc:t<cs.size:=by omega
    rw[Array.getD_eq_getD_getElem?]
    simp[Sort.putCells,Array.getElem?_mapIdx,htc,hFs,ht]
   have hB:eM ⟨w1,κ.nm,κ.imm⟩ 0 (.cells 39 false (bK ((srt l).map Fld.pv))):=by
    refine .inr ⟨b,nn,_,hnm,hb1,hcs',by rw[dp,iw];rw[dp] at q4;exact q4,(fun h=>by cases h),fun o x hx=>?_,q7⟩
    have ho:o<l.length*7:=by
     have:=(List.getElem?_eq_some_iff.1 hx).1
     rwa [dp,iw] at this
    have ho7:o / 7<(lB l).size:=by rw[d9];omega
    have hsr:(srt l)[o / 7]? = some (l.getD (lB l)[o / 7]! Me):=by
     unfold srt
     rw[List.getElem?_map,Array.getElem?_toList,Array.getElem?_eq_getElem ho7,getElem!_pos (lB l) (o / 7) ho7];rfl
    have hal:(lB l)[o / 7]! < l.length:=by
     rw[getElem!_pos (lB l) (o / 7) ho7]
     have:=(kf l).mem_iff.1 (Array.getElem_mem_toList ho7)
     simpa using this
    obtain⟨a,ha⟩:∃ a,a=(lB l)[o / 7]!:=⟨_,rfl⟩
    rw[← ha] at hal hsr
    have hla:l[a]? = some (l.getD a Me):=by rw[List.getD_eq_getElem?_getD,List.getElem?_eq_getElem hal];rfl
    have hxa:=jH (srt l) (o / 7) (o % 7) _ hsr (Nat.mod_lt _ (by omega))
    rw[show o / 7*7+o % 7=o by omega,hx] at hxa
    have hxl:=jH l a (o % 7) _ hla (Nat.mod_lt _ (by omega))
    rw[← hxa] at hxl
    have hrel:=q6 _ _ hxl
    rw[hget o ho,hF,Sort.get_flatK _ _ _ o (by rw[d9];exact ho),← ha,(hX a).2 hal (o % 7) (Nat.mod_lt _ (by omega))]
    exact hrel.ext k1.ext
   have hS1:=k2 hB
   obtain⟨g1,g2,g3⟩:=SRel.grow hS1 (Go.Proofs.sortWorldK (fun i=>xz (X i)) 7 κ.w b 0 m (lB l) os) os (by
    show _=Sort.grow w1 os
    rw[hw1,hF];rfl) k1.size
   have hL0:Go.Ab.Left (cp κ (fun r=>lookB r (bW [Blk.cells 39 false (bK (l.map Fld.pv))] 0)) G) κ.imm κ:=⟨rfl,rfl,rfl,Nat.le_refl _,fun _ _ _=>rfl,fun _ _ h=>.inl h⟩
   have hσ':(aw.set (fun r=>lookB r (bW [Blk.cells 39 false (bK (l.map Fld.pv))] 0)) 0 (.cells 39 false (bK ((srt l).map Fld.pv))))=fun r=>lookB r (bW [Blk.cells 39 false (bK ((srt l).map Fld.pv))] 0):=by
    funext r
    by_cases hr:r=0
    ·subst hr;rfl
    ·simp only[aw.set,hr,if_false,bW,lookB]
     rw[if_neg (fun e=>hr e.symm),if_neg (fun e=>hr e.symm)]
   rw[hσ'] at g2
   exact⟨_,.pv (.tup []),_,_,1,rfl,rfl,(κ.cut_ext 1).trans (k1.ext.trans g1),g3 _ (k1.left _ hL0),.pv _ _ (.tup [] #[] rfl (fun i x hx=>by simp at hx)),g2,hf,rfl,rfl,rfl⟩
def OkT (R:Rd):Prop:=R.e=0→I64 R.now.num∧R.now.sc≤12∧R.now.text.length≤65536∧R.now.bytes.length≤300000∧(R.now.kind=0→R.now.text=[])
theorem mR:∀ (f:Nat) (l:List UInt8) (i:Nat) (o:List UInt8) {o':List UInt8} {j:Nat},ir f l i o = .done o' j→o'.length≤o.length+4*l.length
 | 0,l,i,o,o',j,h=>by cases h
 | f+1,[],i,o,o',j,h=>by cases h
 | f+1,c::r,i,o,o',j,h=>by
   by_cases h1:c.toNat=34
   ·rw[iq h1] at h;cases h;omega
   by_cases h2:c.toNat<32∨c.toNat=127
   ·rw[fF h1 h2] at h;cases h
   by_cases h3:c.toNat=92
   ·by_cases h4:r=[]
    ·subst h4;rw[d6 h3] at h;cases h
    ·rw[fD h3 h4] at h
     split at h
     ·rename_i he
      have:=jK he
      have ih:=mR f _ _ _ h
      rw[List.length_drop,List.length_append] at ih
      rw[List.length_cons];omega
     ·cases h
   ·rw[dj h1 h2 h3] at h
    have ih:=mR f _ _ _ h
    rw[List.length_append,List.length_singleton] at ih
    rw[List.length_cons];omega
theorem nq:∀ (l:List UInt8) (i:Nat) (q:Option Nat) (o:List UInt8) {o':List UInt8} {j:Nat},en l i q o = .done o' j→o'.length≤o.length+l.length
 | [],i,q,o,o',j,h=>by cases h
 | c::r,i,q,o,o',j,h=>by
   rw[en] at h
   split at h
   ·cases h;omega
   ·split at h
    ·cases h
    ·split at h
     ·have ih:=nq r _ _ _ h
      rw[List.length_cons];omega
     ·have ih:=nq r _ _ _ h
      rw[List.length_append,List.length_singleton] at ih
      rw[List.length_cons];omega
theorem EO (s:List UInt8):I64 (aQ s).1.1∧(aQ s).1.2≤12:=by
 unfold aQ
 split
 ·unfold I64;simp
 split
 ·unfold I64;simp
 split
 ·rename_i h
  obtain⟨⟨h1,h2,h3⟩,_⟩:=h
  unfold I64;simp only;omega
 ·unfold I64;simp
theorem cD:I64 0:=by unfold I64;omega
theorem GZ {R:Rd}{i:Nat}{k:Int}{v:Bool}{z:Sc}(h0:R.now = { pos:=i })(hz:∀ o j,z = .done o j→o.length≤300000)(he:∀ j,¬ z = .bad j 0)(h:(bd R i k v z).e=0) :
  I64 (bd R i k v z).now.num∧(bd R i k v z).now.sc≤12∧(bd R i k v z).now.bytes.length≤300000:=by
 cases z with
 | short=>exact absurd h (aZ (by decide))
 | bad j e=>
   by_cases hx:e=0
   ·subst hx;exact absurd rfl (he j)
   ·exact absurd h (aZ hx)
 | done o j=>
   have:=hz o j rfl
   simp only[bd]
   split
   ·simp only[cx,h0];exact⟨cD,by omega,this⟩
   ·simp only[h0];exact⟨cD,by omega,this⟩
theorem NI (R:Rd)(i:Nat)(w:Nat×Bool×Bool)(q:(Int×Nat)×Int)(h1:I64 q.1.1)(h2:q.1.2≤12):I64 (Ax R i w q).now.num∧(Ax R i w q).now.sc≤12∧(Ax R i w q).now.bytes=R.now.bytes:=by
 obtain⟨a,x,y⟩:=w
 obtain⟨⟨n,sc⟩,e⟩:=q
 by_cases he:e=0
 ·subst he;rw[cu];exact⟨h1,h2,rfl⟩
 ·rw[ct he];simp only[cx];exact⟨h1,h2,trivial⟩
theorem Q5 {R:Rd}{i:Nat}{c:UInt8}(hs:R.s.length≤65536)(h0:R.now = { pos:=i })(h:(eS R i c).e=0):I64 (eS R i c).now.num∧(eS R i c).now.sc≤12∧(eS R i c).now.bytes.length≤300000:=by
 unfold eS at h ⊢
 split
 ·rename_i h1;rw[if_pos h1] at h
  exact GZ h0 (fun o j hz=>by have:=mR _ _ _ _ hz;rw[List.length_drop,List.length_nil] at this;omega) (fun j=>jW _ _ _ _) h
 rename_i h1
 rw[if_neg h1] at h
 split
 ·rename_i h2;rw[if_pos h2] at h
  exact GZ h0 (fun o j hz=>by have:=nq _ _ _ _ hz;rw[List.length_drop,List.length_nil] at this;omega) (fun j=>kG _ _ _ _) h
 rename_i h2
 rw[if_neg h2] at h
 split
 ·simp only[h0];exact⟨cD,by omega,by simp⟩
 rename_i h3
 rw[if_neg h3] at h
 split
 ·rename_i h4
  rw[if_pos h4] at h
  obtain⟨a,ha⟩:∃ a,(if R.s[i]? = some 45 then i+1 else i)=a:=⟨_,rfl⟩
  by_cases hz:aK isD R.s a=a
  ·rw[l8 ha hz] at h
   exact absurd h (aZ (by decide))
  ·rw[cE ha rfl hz rfl]
   have hb:=EO (bX ((R.s.take (ma R.s (aK isD R.s a)).1).drop i))
   obtain⟨g1,g2,g3⟩:=NI R i (ma R.s (aK isD R.s a)) (aQ (bX ((R.s.take (ma R.s (aK isD R.s a)).1).drop i))) hb.1 hb.2
   rw[g3,h0]
   exact⟨g1,g2,by simp⟩
 rename_i h4
 rw[if_neg h4] at h
 split
 ·simp only[h0];exact⟨cD,by omega,by simp⟩
 rename_i h5
 rw[if_neg h5] at h
 split
 ·simp only[h0];exact⟨cD,by omega,by simp⟩
 ·rename_i h6
  rw[if_neg h6] at h
  exact absurd h (aZ (by decide))
theorem G1 {R:Rd}{i:Nat}{k:Int}{v:Bool}{z:Sc}(he:∀ j,¬ z = .bad j 0)(h:(bd R i k v z).e=0):(bd R i k v z).now.kind=k:=by
 cases z with
 | short=>exact absurd h (aZ (by decide))
 | bad j e=>
   by_cases hx:e=0
   ·subst hx;exact absurd rfl (he j)
   ·exact absurd h (aZ hx)
 | done o j=>rfl
theorem NW {R:Rd}{i:Nat}{c:UInt8}(h:(eS R i c).e=0):(eS R i c).now.kind≠0:=by
 unfold eS at h ⊢
 split
 ·rename_i h1;rw[if_pos h1] at h
  unfold xr at h ⊢
  rw[G1 (fun j=>jW _ _ _ _) h];decide
 rename_i h1
 rw[if_neg h1] at h
 split
 ·rename_i h2;rw[if_pos h2] at h
  unfold xw at h ⊢
  rw[G1 (fun j=>kG _ _ _ _) h];decide
 rename_i h2
 rw[if_neg h2] at h
 split
 ·simp
 rename_i h3
 rw[if_neg h3] at h
 split
 ·rename_i h4
  rw[if_pos h4] at h
  rcases kq R i with hq | ⟨w,q,hq⟩
  ·rw[hq] at h
   exact absurd h (aZ (by decide))
  ·rw[hq];unfold Ax;simp
 rename_i h4
 rw[if_neg h4] at h
 split
 ·simp
 rename_i h5
 rw[if_neg h5] at h
 split
 ·simp
 ·rename_i h6
  rw[if_neg h6] at h
  exact absurd h (aZ (by decide))
theorem Aq {R:Rd}(hR:OkR R):OkT (aY R)∨aY R=R:=by
 by_cases h:R.e=0
 ·left
  obtain⟨h1,h2,h3,h4⟩:=hR h
  by_cases hi:R.s.length≤aK aC R.s R.next
  ·rw[sm h hi]
   exact fun _=>⟨cD,by simp only;omega,by simp,by simp,fun _=>rfl⟩
  ·obtain⟨c,hc⟩:∃ c,R.s[aK aC R.s R.next]? = some c:=⟨_,List.getElem?_eq_getElem (by omega)⟩
   rw[sl h hc]
   generalize aK aC R.s R.next=i at *
   have ht:=Q5 (R:={ R with now:={ pos:=i },next:=i }) (i:=i) (c:=c) h1 rfl
   have hs:=Fs { R with now:={ pos:=i },next:=i } i c
   have hk:=NW (R:={ R with now:={ pos:=i },next:=i }) (i:=i) (c:=c)
   generalize eS { R with now:={ pos:=i },next:=i } i c=L at *
   simp only at hs
   intro he
   rw[sY] at he
   obtain⟨g1,g2,g3⟩:=ht he
   rw[fa he]
   refine⟨g1,g2,?_,g3,fun h=>absurd h (hk he)⟩
   simp only[List.length_drop,List.length_take,hs]
   omega
 ·right;exact p8 h
def fO (R R':Rd):Prop:=OkR R'∧OkT R'∧R'.s=R.s∧(R'.e=0→R.e=0∧R.now.pos≤R'.now.pos)
theorem fO.refl {R:Rd}(h:OkR R)(ht:OkT R):fO R R:=⟨h,ht,rfl,fun h=>⟨h,Nat.le_refl _⟩⟩
theorem fO.trans {a b c:Rd}(h:fO a b)(k:fO b c):fO a c:=
 ⟨k.1,k.2.1,k.2.2.1.trans h.2.2.1,fun hc=>⟨(h.2.2.2 (k.2.2.2 hc).1).1,Nat.le_trans (h.2.2.2 (k.2.2.2 hc).1).2 (k.2.2.2 hc).2⟩⟩
theorem bY {R:Rd}{i:Nat}{e:Int}(he:e≠0):fO R (aI R i e):=
 ⟨Ja he,fun h=>absurd h (aZ he),kU _ _ _,fun h=>absurd h (aZ he)⟩
theorem df {R:Rd}(h:OkR R)(ht:OkT R):fO R (aY R)∧((aY R).e=0→R.now.kind≠0→R.now.pos<(aY R).now.pos):=by
 have h1:=uP h
 have ht':OkT (aY R):=by
  rcases Aq h with h2 | h2
  ·exact h2
  ·rw[h2];exact ht
 refine⟨⟨h1.1,ht',OZ R,fun he=>?_⟩,fun he hk=>?_⟩
 ·have h0:=uQ he
  have:=h1.2 he
  have:=(h h0).2.1
  exact⟨h0,by omega⟩
 ·have h0:=uQ he
  have:=h1.2 he
  have:=(h h0).2.2.2 hk
  omega
theorem bN {R:Rd}{t:List UInt8}(h:OkR R)(ht:OkT R):fO R (aq R t):=by
 unfold aq
 split
 ·split
  ·exact (df h ht).1
  ·exact bY (by decide)
 ·exact .refl h ht
theorem om {R:Rd}{k:Int}(h:OkR R)(ht:OkT R):fO R (fe R k).2:=by
 by_cases h0:R.e=0
 ·by_cases hk:R.now.kind=k
  ·rw[lO h0 hk];exact (df h ht).1
  ·rw[take_2 h0 hk];exact bY (by decide)
 ·rw[take_3 h0];exact .refl h ht
theorem HZ {R:Rd}{k:Int}(ht:OkT R):(fe R k).1.text.length≤65536∧(fe R k).1.bytes.length≤300000:=by
 by_cases h0:R.e=0
 ·by_cases hk:R.now.kind=k
  ·rw[lO h0 hk];exact⟨(ht h0).2.2.1,(ht h0).2.2.2.1⟩
  ·rw[take_2 h0 hk];simp
 ·rw[take_3 h0];simp
theorem yF {R:Rd}(h:OkR R)(ht:OkT R):fO R (bg R).2∧(bg R).1.length≤65536:=by
 have h1:=om (k:=1) h ht
 have h2:=HZ (R:=R) (k:=1) ht
 unfold bg
 refine⟨?_,h2.1⟩
 simp only
 split
 ·exact h1.trans (bY (by decide))
 ·exact h1
theorem jX {R:Rd}(ps:List UInt8→Int×Int)(hp:∀ s,I64 (ps s).1)(h:OkR R)(ht:OkT R):fO R (bh R ps).2∧I64 (bh R ps).1:=by
 have h1:=om (k:=3) h ht
 unfold bh
 simp only
 split
 ·refine⟨?_,hp _⟩
  simp only
  split
  ·exact h1
  ·rename_i hne
   exact h1.trans (bY hne)
 ·exact⟨h1,cD⟩
end Go.Proofs.YtamoeblcphjbaaaGreatDoor
