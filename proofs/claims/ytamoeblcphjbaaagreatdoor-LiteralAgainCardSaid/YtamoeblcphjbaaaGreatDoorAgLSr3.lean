/- A part of the proof for LiteralAgainCardSaid. -/
import Derived.Test.YtamoeblcphjbaaaGreatDoorAgLSh3
import Derived.Test.YtamoeblcphjbaaaGreatDoorAgCore6
import Derived.Test.YtamoeblcphjbaaaGreatDoorAgLP9
set_option maxRecDepth 100000
set_option linter.unusedVariables false
set_option linter.unusedSimpArgs false
namespace Go.Proofs.YtamoeblcphjbaaaGreatDoor
open Go Go.Ab Go.RowKit
theorem SRel.grow {c:Ctx}{κ:Kap}{σ:aw}(hS:SRel c κ σ)(w':World)(os:Array Obj)(h:w'=Sort.grow κ.w os)(hc:c.w0.heap.size≤κ.w.heap.size) :
  Ext κ ⟨w',κ.nm,κ.imm⟩∧SRel c ⟨w',κ.nm,κ.imm⟩ σ∧∀ imm0,Go.Ab.Left c imm0 κ→Go.Ab.Left c imm0 ⟨w',κ.nm,κ.imm⟩:=by
 have hb:∀ b,b<κ.w.heap.size→w'.heap[b]? = κ.w.heap[b]?:=by
  intro b hb
  rw[h]
  show (κ.w.heap++os)[b]? = _
  rw[Array.getElem?_append,if_pos hb]
 have hsz:κ.w.heap.size≤w'.heap.size:=by rw[h];show _≤(κ.w.heap++os).size;simp
 have he:Ext κ ⟨w',κ.nm,κ.imm⟩:=by
  refine⟨fun _ _ h=>h,fun b o v hi hcl=>?_,fun _ _ h=>h,fun b o ho _=>?_⟩
  ·have:=hb b (hS.immLt b o hi)
   simpa[World.cell?,this] using hcl
  ·exact (hb b (Array.getElem?_eq_some_iff.1 ho).1).trans ho
 refine⟨he,⟨fun r=>?_,hS.apart,hS.mine,fun b o hi=>Nat.lt_of_lt_of_le (hS.immLt b o hi) hsz,?_⟩,fun imm0 hL=>⟨?_,?_,?_,Nat.le_trans hL.size hsz,fun b hlt hl=>(hb b (Nat.lt_of_lt_of_le hlt hc)).trans (hL.block b hlt hl),hL.imm⟩⟩
 ·exact (hS.blk r).keep he fun hz d b hd hbk=>⟨hb b ((hS.blk r).lt hz hd hbk),fun o ho=>ho⟩
 ·exact SRel.glob_ext he hS.glob fun g h1 h2=>hb g (Nat.lt_of_lt_of_le h1 hc)
 ·show w'.os=_;rw[h];exact hL.os
 ·show w'.tape=_;rw[h];exact hL.tape
 ·show w'.output=_;rw[h];exact hL.output
def nc (f:Fld):List PV:=f.pv.cells
theorem tK (nm:List UInt8)(k n s:Int)(t:List UInt8)(l:List Val)(fs:List Fld):nc (.mk nm (.mk k n s t l fs))=[.str nm,.int .i64 k,.int .i64 n,.int .i64 s,.str t,.list (l.map Val.pv),.list (fs.map Fld.pv)]:=by
 unfold nc;rw[Fld.pv_mk,Val.pv_mk];rfl
theorem gU (f:Fld):(nc f).length=7:=by
 obtain⟨nm,⟨k,n,s,t,l,fs⟩⟩:=f
 rw[tK];rfl
theorem jG:∀ (l:List Fld) (i j:Nat) (f:Fld),l[i]? = some f→j<7→(bE (l.map Fld.pv))[i*7+j]? = ((nc f)[j]?).map AV.pv
 | [],i,j,f,h,_=>by simp at h
 | x::r,0,j,f,h,hj=>by
   simp only[List.getElem?_cons_zero,Option.some.injEq] at h
   subst h
   have:bE ((x::r).map Fld.pv)=(nc x).map AV.pv++bE (r.map Fld.pv):=by simp[bE,nc]
   rw[this,List.getElem?_append_left (by rw[List.length_map,gU];omega),Nat.zero_mul,Nat.zero_add,List.getElem?_map]
 | x::r,i+1,j,f,h,hj=>by
   have:bE ((x::r).map Fld.pv)=(nc x).map AV.pv++bE (r.map Fld.pv):=by simp[bE,nc]
   rw[this,List.getElem?_append_right (by rw[List.length_map,gU];omega),List.length_map,gU,show (i+1)*7+j - 7=i*7+j by omega]
   exact jG r i j f (by simpa using h) hj
theorem dj (l:List Fld):(bE (l.map Fld.pv)).length=l.length*7:=ja (fun f=>gU f) l
set_option maxHeartbeats 2000000 in
theorem H7 {G:Nat→List PV}(l:List Fld)(hl:l.length≤1000000) :
  aQ Tryz.prog G 1 167 [.row 0 7 0 l.length,.pv (.clo 168 [] [])] [.cells 39 false (bE (l.map Fld.pv))] (.pv (.tup [])) [.cells 39 false (bE ((srt l).map Fld.pv))]:=by
 refine⟨by kernel_rfl,fun κ vals hS hf hsz hargs=>?_⟩
 have hv:=sk hsz
 have h0:=hargs 0 _ rfl
 have h1:=hargs 1 _ rfl
 generalize vals.getD 0 Go.undef=v0 at *
 generalize vals.getD 1 Go.undef=v1 at *
 subst hv
 have e1:v1 = .func (.func 168) #[] #[]:=by
  have h2:=aH h1
  cases h2 with
  | clo _ _ _ vs us g1 g2 g3 g4=>
    obtain rfl:vs = #[]:=by apply Array.eq_empty_of_size_eq_zero;simpa using g1
    obtain rfl:us = #[]:=by apply Array.eq_empty_of_size_eq_zero;simpa using g3
    rfl
 subst e1
 have hσ:(fun r=>lookB r (ca [Blk.cells 39 false (bE (l.map Fld.pv))] 0)) 0 = .cells 39 false (bE (l.map Fld.pv)):=rfl
 have hR:eR κ 0 (.cells 39 false (bE (l.map Fld.pv))):=hS.blk 0
 generalize hn:l.length=n at h0
 cases h0 with
 | row0=>
   obtain rfl:l=[]:=List.eq_nil_of_length_eq_zero hn
   have hc:=Go.Proofs.AnyF.slices_SortFunc_none (P:=Tryz.prog) (ρ:=Tryz.sortF_ren) { Tryz.sortF with } none 0 (.func (.func 168) #[] #[]) κ.w
   refine Calls.mono (show Calls Tryz.prog 167 #[.slice none 0 0,.func (.func 168) #[] #[]] κ.w _ from hc) ?_
   rintro e w' ⟨rfl,rfl⟩
   have hs:srt []=[]:=List.eq_nil_of_length_eq_zero (by rw[ip];rfl)
   rw[hs]
   exact⟨_,.pv (.tup []),κ,_,1,rfl,rfl,κ.cut_ext 1,⟨rfl,rfl,rfl,Nat.le_refl _,fun _ _ _=>rfl,fun _ _ h=>.inl h⟩,.pv _ _ (.tup [] #[] rfl (fun i x hx=>by simp at hx)),hS,hf,rfl,rfl,rfl⟩
 | row _ _ _ _ b nn cap hnm h2 h3 h4 h5=>
   subst hn
   rcases hR with ⟨_,_,hx⟩ | ⟨b',n',cs,q1,q2,q3,q4,q5,q6,q7⟩
   ·rw[hx] at hnm;cases hnm
   rw[hnm] at q1;cases q1
   have hcs:l.length*7≤cs.size:=by rw[q3];rw[dj] at q4;exact q4
   have cellAt:∀ (i j:Nat) (f:Fld) (q:PV),l[i]? = some f→j<7→(nc f)[j]? = some q→ARel κ (.pv q) (cs.getD (i*7+j) Go.undef):=by
    intro i j f q hi hj hq
    refine q6 (i*7+j) _ ?_
    rw[jG l i j f hi hj,hq];rfl
   have hXe:∀ i,∃ x:FldC,x.name.data.toList=nmL l i∧(i<l.length→∀ j,j<7→(xb x)[j]! = cs.getD (i*7+j) Go.undef):=by
    intro i
    by_cases hi:i<l.length
    ·obtain⟨f,hfi⟩:∃ f,l[i]? = some f:=⟨_,List.getElem?_eq_getElem hi⟩
     obtain⟨nm,⟨k,m,s,t,ls,fs⟩⟩:=f
     have a:=fun j q hj hq=>cellAt i j _ q hfi hj hq
     rw[tK] at a
     obtain⟨s0,a0,a0',_⟩:=dN (a 0 _ (by omega) rfl)
     have o1:=(a 1 _ (by omega) rfl).oneCell rfl
     have o2:=(a 2 _ (by omega) rfl).oneCell rfl
     have o3:=(a 3 _ (by omega) rfl).oneCell rfl
     have o4:=(a 4 _ (by omega) rfl).oneCell rfl
     have o5:=(a 5 _ (by omega) rfl).oneCell rfl
     have o6:=(a 6 _ (by omega) rfl).oneCell rfl
     refine⟨⟨s0,_,_,_,_,_,_,o1,o2,o3,o4,o5,o6⟩,?_,fun _ j hj=>?_⟩
     ·unfold nmL
      rw[List.getD_eq_getElem?_getD,hfi]
      exact a0'.symm
     ·match j,hj with
      | 0,_=>exact a0.symm
      | 1,_=>rfl
      | 2,_=>rfl
      | 3,_=>rfl
      | 4,_=>rfl
      | 5,_=>rfl
      | 6,_=>rfl
    ·exact⟨⟨⟨(nmL l i).toArray⟩,.int .i64 0,.int .i64 0,.int .i64 0,.int .i64 0,.int .i64 0,.int .i64 0,by decide⟩,by simp,fun h=>absurd h hi⟩
   obtain⟨X,hX⟩:=Classical.axiomOfChoice hXe
   have hblk:b<κ.w.heap.size:=(Array.getElem?_eq_some_iff.1 q2).1
   have hH:Sort.HoldsK (fun i=>xb (X i)) 7 κ.w b 0 (Array.range l.length):=by
    intro t ht
    rw[Sort.size_flatK,Array.size_range] at ht
    rw[Sort.get_flatK _ _ _ t (by rw[Array.size_range];exact ht)]
    have ht7:t / 7<l.length:=by omega
    have er:(Array.range l.length)[t / 7]! = t / 7:=by rw[getElem!_pos _ _ (by simpa using ht7)];simp
    rw[er,(hX (t / 7)).2 ht7 (t % 7) (Nat.mod_lt _ (by omega)),show t / 7*7+t % 7=t by omega]
    have htc:t<cs.size:=by omega
    refine⟨?_,?_⟩
    ·simp[World.cell?,q2,Array.getD_eq_getD_getElem?,htc]
    ·simp[World.frozen?,q2]
   have hcmp:Go.Proofs.CmpLays Tryz.prog 168 #[] (fun i=>xb (X i)) 7 (cfL l) b 0 (Array.range l.length).size κ.w:=by
    intro m os dk hdk x y
    have:=wz (X x) (X y) (Go.Proofs.sortWorldK (fun i=>xb (X i)) 7 κ.w b 0 m dk os)
    rw[QA,(hX x).1,(hX y).1] at this
    exact this
   have eg:∀ args w,(callFunc 168 args).run Tryz.prog w = .ok (.enter 168 args) w:=enters_of Tryz.func168 (by kernel_rfl) rfl
   have hc:=Go.Proofs.AnyQ.slices_SortFunc_eq (P:=Tryz.prog) (ρ:=Tryz.sortF_ren) Tryz.sortF 7 Tryz.isAgg39 Tryz.sizeOf39 (fun i=>xb (X i)) (fun _=>rfl) (fun i v hv=>by
    obtain⟨g1,g2,g3,g4,g5,g6⟩:=(X i).one
    simp only[xb,List.mem_cons,List.not_mem_nil,or_false] at hv
    rcases hv with rfl | rfl | rfl | rfl | rfl | rfl | rfl<;>first | rfl | assumption) (cfL l) (PB l) 168 #[] b 0 cap (Array.range l.length) κ.w eg hcmp hH hblk (by rw[Array.size_range];omega)
   have hc':Calls Tryz.prog 167 #[.slice (some ⟨b,0,none⟩) l.length cap,.func (.func 168) #[] #[]] κ.w fun e w'=>e = .returned (.tuple #[])∧∃ m os,w'=Go.Proofs.sortWorldK (fun i=>xb (X i)) 7 κ.w b 0 m (ly l) os:=by
    have e2:(Array.range l.length).size=l.length:=Array.size_range
    have:=hc
    rw[e2] at this
    unfold ly
    rw[e2]
    exact this
   refine hc'.mono ?_
   rintro e w' ⟨rfl,m,os,rfl⟩
   obtain⟨F,hF⟩:∃ F,F=Sort.flatK (fun i=>xb (X i)) 7 (ly l):=⟨_,rfl⟩
   obtain⟨w1,hw1⟩:∃ w1,w1=Sort.putRow id (Sort.ahead κ.w m) b 0 F:=⟨_,rfl⟩
   have hFs:F.size=l.length*7:=by rw[hF,Sort.size_flatK,d6]
   have hheap:w1.heap=κ.w.heap.modify b (Sort.onCells (Sort.putCells id 0 F)):=by rw[hw1];rfl
   have hb1:w1.heap[b]? = some (.cells (Sort.putCells id 0 F cs) 39 (0,0)):=by
    rw[hheap,Array.getElem?_modify,if_pos rfl,q2];rfl
   have hother:∀ b',b'≠b→w1.heap[b']? = κ.w.heap[b']?:=by
    intro b' hb'
    rw[hheap,Array.getElem?_modify,if_neg (Ne.symm hb')]
   have hlent:(fun r=>lookB r (ca [Blk.cells 39 false (bE (l.map Fld.pv))] 0)) 0≠.none:=by rw[hσ];exact fun h=>by cases h
   obtain⟨k1,k2⟩:=qw hS (r0:=0) (b0:=b) (d0:=.blk b nn) (Bo:=.cells 39 false (bE ((srt l).map Fld.pv))) (w':=w1) 1
    (by rw[hw1];rfl) (by rw[hw1];rfl) (by rw[hw1];rfl) (by rw[hheap,Array.size_modify]) hother q7 hlent hnm rfl
   have hcs':(Sort.putCells id 0 F cs).size=nn:=by simp[Sort.putCells,q3]
   have hget:∀ t,t<l.length*7→(Sort.putCells id 0 F cs).getD t Go.undef=F[t]!:=by
    intro t ht
    have htc:t<cs.size:=by omega
    rw[Array.getD_eq_getD_getElem?]
    simp[Sort.putCells,Array.getElem?_mapIdx,htc,hFs,ht]
   have hB:eR ⟨w1,κ.nm,κ.imm⟩ 0 (.cells 39 false (bE ((srt l).map Fld.pv))):=by
    refine .inr ⟨b,nn,_,hnm,hb1,hcs',by rw[dj,ip];rw[dj] at q4;exact q4,(fun h=>by cases h),fun o x hx=>?_,q7⟩
    have ho:o<l.length*7:=by
     have:=(List.getElem?_eq_some_iff.1 hx).1
     rwa [dj,ip] at this
    have ho7:o / 7<(ly l).size:=by rw[d6];omega
    have hsr:(srt l)[o / 7]? = some (l.getD (ly l)[o / 7]! LA):=by
     unfold srt
     rw[List.getElem?_map,Array.getElem?_toList,Array.getElem?_eq_getElem ho7,getElem!_pos (ly l) (o / 7) ho7];rfl
    have hal:(ly l)[o / 7]! < l.length:=by
     rw[getElem!_pos (ly l) (o / 7) ho7]
     have:=(kq l).mem_iff.1 (Array.getElem_mem_toList ho7)
     simpa using this
    obtain⟨a,ha⟩:∃ a,a=(ly l)[o / 7]!:=⟨_,rfl⟩
    rw[← ha] at hal hsr
    have hla:l[a]? = some (l.getD a LA):=by rw[List.getD_eq_getElem?_getD,List.getElem?_eq_getElem hal];rfl
    have hxa:=jG (srt l) (o / 7) (o % 7) _ hsr (Nat.mod_lt _ (by omega))
    rw[show o / 7*7+o % 7=o by omega,hx] at hxa
    have hxl:=jG l a (o % 7) _ hla (Nat.mod_lt _ (by omega))
    rw[← hxa] at hxl
    have hrel:=q6 _ _ hxl
    rw[hget o ho,hF,Sort.get_flatK _ _ _ o (by rw[d6];exact ho),← ha,(hX a).2 hal (o % 7) (Nat.mod_lt _ (by omega))]
    exact hrel.ext k1.ext
   have hS1:=k2 hB
   obtain⟨g1,g2,g3⟩:=SRel.grow hS1 (Go.Proofs.sortWorldK (fun i=>xb (X i)) 7 κ.w b 0 m (ly l) os) os (by
    show _=Sort.grow w1 os
    rw[hw1,hF];rfl) k1.size
   have hL0:Go.Ab.Left (cr κ (fun r=>lookB r (ca [Blk.cells 39 false (bE (l.map Fld.pv))] 0)) G) κ.imm κ:=⟨rfl,rfl,rfl,Nat.le_refl _,fun _ _ _=>rfl,fun _ _ h=>.inl h⟩
   have hσ':(aw.set (fun r=>lookB r (ca [Blk.cells 39 false (bE (l.map Fld.pv))] 0)) 0 (.cells 39 false (bE ((srt l).map Fld.pv))))=fun r=>lookB r (ca [Blk.cells 39 false (bE ((srt l).map Fld.pv))] 0):=by
    funext r
    by_cases hr:r=0
    ·subst hr;rfl
    ·simp only[aw.set,hr,if_false,ca,lookB]
     rw[if_neg (fun e=>hr e.symm),if_neg (fun e=>hr e.symm)]
   rw[hσ'] at g2
   exact⟨_,.pv (.tup []),_,_,1,rfl,rfl,(κ.cut_ext 1).trans (k1.ext.trans g1),g3 _ (k1.left _ hL0),.pv _ _ (.tup [] #[] rfl (fun i x hx=>by simp at hx)),g2,hf,rfl,rfl,rfl⟩
end Go.Proofs.YtamoeblcphjbaaaGreatDoor
namespace Go.Proofs.YtamoeblcphjbaaaGreatDoor
open Go Go.Ab
def OkT (R:Rd):Prop:=R.e=0→I64 R.now.num∧R.now.sc≤12∧R.now.text.length≤65536∧R.now.bytes.length≤300000∧(R.now.kind=0→R.now.text=[])
theorem mH:∀ (f:Nat) (l:List UInt8) (i:Nat) (o:List UInt8) {o':List UInt8} {j:Nat},ji f l i o = .done o' j→o'.length≤o.length+4*l.length
 | 0,l,i,o,o',j,h=>by cases h
 | f+1,[],i,o,o',j,h=>by cases h
 | f+1,c::r,i,o,o',j,h=>by
   by_cases h1:c.toNat=34
   ·rw[fX h1] at h;cases h;omega
   by_cases h2:c.toNat<32∨c.toNat=127
   ·rw[fx h1 h2] at h;cases h
   by_cases h3:c.toNat=92
   ·by_cases h4:r=[]
    ·subst h4;rw[dY h3] at h;cases h
    ·rw[dF h3 h4] at h
     split at h
     ·rename_i he
      have:=jI he
      have ih:=mH f _ _ _ h
      rw[List.length_drop,List.length_append] at ih
      rw[List.length_cons];omega
     ·cases h
   ·rw[cH h1 h2 h3] at h
    have ih:=mH f _ _ _ h
    rw[List.length_append,List.length_singleton] at ih
    rw[List.length_cons];omega
theorem m7:∀ (l:List UInt8) (i:Nat) (q:Option Nat) (o:List UInt8) {o':List UInt8} {j:Nat},i7 l i q o = .done o' j→o'.length≤o.length+l.length
 | [],i,q,o,o',j,h=>by cases h
 | c::r,i,q,o,o',j,h=>by
   rw[i7] at h
   split at h
   ·cases h;omega
   ·split at h
    ·cases h
    ·split at h
     ·have ih:=m7 r _ _ _ h
      rw[List.length_cons];omega
     ·have ih:=m7 r _ _ _ h
      rw[List.length_append,List.length_singleton] at ih
      rw[List.length_cons];omega
theorem EP (s:List UInt8):I64 (bg s).1.1∧(bg s).1.2≤12:=by
 unfold bg
 split
 ·unfold I64;simp
 split
 ·unfold I64;simp
 split
 ·rename_i h
  obtain⟨⟨h1,h2,h3⟩,_⟩:=h
  unfold I64;simp only;omega
 ·unfold I64;simp
theorem cB:I64 0:=by unfold I64;omega
theorem GX {R:Rd}{i:Nat}{k:Int}{v:Bool}{z:Sc}(h0:R.now = { pos:=i })(hz:∀ o j,z = .done o j→o.length≤300000)(he:∀ j,¬ z = .bad j 0)(h:(bp R i k v z).e=0) :
  I64 (bp R i k v z).now.num∧(bp R i k v z).now.sc≤12∧(bp R i k v z).now.bytes.length≤300000:=by
 cases z with
 | short=>exact absurd h (aX (by decide))
 | bad j e=>
   by_cases hx:e=0
   ·subst hx;exact absurd rfl (he j)
   ·exact absurd h (aX hx)
 | done o j=>
   have:=hz o j rfl
   simp only[bp]
   split
   ·simp only[cf,h0];exact⟨cB,by omega,this⟩
   ·simp only[h0];exact⟨cB,by omega,this⟩
theorem MQ (R:Rd)(i:Nat)(w:Nat×Bool×Bool)(q:(Int×Nat)×Int)(h1:I64 q.1.1)(h2:q.1.2≤12):I64 (w7 R i w q).now.num∧(w7 R i w q).now.sc≤12∧(w7 R i w q).now.bytes=R.now.bytes:=by
 obtain⟨a,x,y⟩:=w
 obtain⟨⟨n,sc⟩,e⟩:=q
 by_cases he:e=0
 ·subst he;rw[cu];exact⟨h1,h2,rfl⟩
 ·rw[cD he];simp only[cf];exact⟨h1,h2,trivial⟩
theorem P3 {R:Rd}{i:Nat}{c:UInt8}(hs:R.s.length≤65536)(h0:R.now = { pos:=i })(h:(dC R i c).e=0):I64 (dC R i c).now.num∧(dC R i c).now.sc≤12∧(dC R i c).now.bytes.length≤300000:=by
 unfold dC at h ⊢
 split
 ·rename_i h1;rw[if_pos h1] at h
  exact GX h0 (fun o j hz=>by have:=mH _ _ _ _ hz;rw[List.length_drop,List.length_nil] at this;omega) (fun j=>lO _ _ _ _) h
 rename_i h1
 rw[if_neg h1] at h
 split
 ·rename_i h2;rw[if_pos h2] at h
  exact GX h0 (fun o j hz=>by have:=m7 _ _ _ _ hz;rw[List.length_drop,List.length_nil] at this;omega) (fun j=>l8 _ _ _ _) h
 rename_i h2
 rw[if_neg h2] at h
 split
 ·simp only[h0];exact⟨cB,by omega,by simp⟩
 rename_i h3
 rw[if_neg h3] at h
 split
 ·rename_i h4
  rw[if_pos h4] at h
  obtain⟨a,ha⟩:∃ a,(if R.s[i]? = some 45 then i+1 else i)=a:=⟨_,rfl⟩
  by_cases hz:bx isD R.s a=a
  ·rw[oK ha hz] at h
   exact absurd h (aX (by decide))
  ·rw[cC ha rfl hz rfl]
   have hb:=EP (cY ((R.s.take (vE R.s (bx isD R.s a)).1).drop i))
   obtain⟨g1,g2,g3⟩:=MQ R i (vE R.s (bx isD R.s a)) (bg (cY ((R.s.take (vE R.s (bx isD R.s a)).1).drop i))) hb.1 hb.2
   rw[g3,h0]
   exact⟨g1,g2,by simp⟩
 rename_i h4
 rw[if_neg h4] at h
 split
 ·simp only[h0];exact⟨cB,by omega,by simp⟩
 rename_i h5
 rw[if_neg h5] at h
 split
 ·simp only[h0];exact⟨cB,by omega,by simp⟩
 ·rename_i h6
  rw[if_neg h6] at h
  exact absurd h (aX (by decide))
theorem GZ {R:Rd}{i:Nat}{k:Int}{v:Bool}{z:Sc}(he:∀ j,¬ z = .bad j 0)(h:(bp R i k v z).e=0):(bp R i k v z).now.kind=k:=by
 cases z with
 | short=>exact absurd h (aX (by decide))
 | bad j e=>
   by_cases hx:e=0
   ·subst hx;exact absurd rfl (he j)
   ·exact absurd h (aX hx)
 | done o j=>rfl
theorem P4 {R:Rd}{i:Nat}{c:UInt8}(h:(dC R i c).e=0):(dC R i c).now.kind≠0:=by
 unfold dC at h ⊢
 split
 ·rename_i h1;rw[if_pos h1] at h
  unfold sA at h ⊢
  rw[GZ (fun j=>lO _ _ _ _) h];decide
 rename_i h1
 rw[if_neg h1] at h
 split
 ·rename_i h2;rw[if_pos h2] at h
  unfold tA at h ⊢
  rw[GZ (fun j=>l8 _ _ _ _) h];decide
 rename_i h2
 rw[if_neg h2] at h
 split
 ·simp
 rename_i h3
 rw[if_neg h3] at h
 split
 ·rename_i h4
  rw[if_pos h4] at h
  rcases kx R i with hq | ⟨w,q,hq⟩
  ·rw[hq] at h
   exact absurd h (aX (by decide))
  ·rw[hq];unfold w7;simp
 rename_i h4
 rw[if_neg h4] at h
 split
 ·simp
 rename_i h5
 rw[if_neg h5] at h
 split
 ·simp
 ·rename_i h6
  rw[if_neg h6] at h
  exact absurd h (aX (by decide))
theorem zW {R:Rd}(hR:OkR R):OkT (bm R)∨bm R=R:=by
 by_cases h:R.e=0
 ·left
  obtain⟨h1,h2,h3,h4⟩:=hR h
  by_cases hi:R.s.length≤bx aR R.s R.next
  ·rw[wT h hi]
   exact fun _=>⟨cB,by simp only;omega,by simp,by simp,fun _=>rfl⟩
  ·obtain⟨c,hc⟩:∃ c,R.s[bx aR R.s R.next]? = some c:=⟨_,List.getElem?_eq_getElem (by omega)⟩
   rw[wR h hc]
   generalize bx aR R.s R.next=i at *
   have ht:=P3 (R:={ R with now:={ pos:=i },next:=i }) (i:=i) (c:=c) h1 rfl
   have hs:=Fr { R with now:={ pos:=i },next:=i } i c
   have hk:=P4 (R:={ R with now:={ pos:=i },next:=i }) (i:=i) (c:=c)
   generalize dC { R with now:={ pos:=i },next:=i } i c=L at *
   simp only at hs
   intro he
   rw[xS] at he
   obtain⟨g1,g2,g3⟩:=ht he
   rw[gw he]
   refine⟨g1,g2,?_,g3,fun h=>absurd h (hk he)⟩
   simp only[List.length_drop,List.length_take,hs]
   omega
 ·right;exact rW h
def fR (R R':Rd):Prop:=OkR R'∧OkT R'∧R'.s=R.s∧(R'.e=0→R.e=0∧R.now.pos≤R'.now.pos)
theorem fR.refl {R:Rd}(h:OkR R)(ht:OkT R):fR R R:=⟨h,ht,rfl,fun h=>⟨h,Nat.le_refl _⟩⟩
theorem fR.trans {a b c:Rd}(h:fR a b)(k:fR b c):fR a c:=
 ⟨k.1,k.2.1,k.2.2.1.trans h.2.2.1,fun hc=>⟨(h.2.2.2 (k.2.2.2 hc).1).1,Nat.le_trans (h.2.2.2 (k.2.2.2 hc).1).2 (k.2.2.2 hc).2⟩⟩
theorem cb {R:Rd}{i:Nat}{e:Int}(he:e≠0):fR R (aZ R i e):=
 ⟨IZ he,fun h=>absurd h (aX he),kY _ _ _,fun h=>absurd h (aX he)⟩
theorem cL {R:Rd}(h:OkR R)(ht:OkT R):fR R (bm R)∧((bm R).e=0→R.now.kind≠0→R.now.pos<(bm R).now.pos):=by
 have h1:=Cq h
 have ht':OkT (bm R):=by
  rcases zW h with h2 | h2
  ·exact h2
  ·rw[h2];exact ht
 refine⟨⟨h1.1,ht',NP R,fun he=>?_⟩,fun he hk=>?_⟩
 ·have h0:=ud he
  have:=h1.2 he
  have:=(h h0).2.1
  exact⟨h0,by omega⟩
 ·have h0:=ud he
  have:=h1.2 he
  have:=(h h0).2.2.2 hk
  omega
theorem br {R:Rd}{t:List UInt8}(h:OkR R)(ht:OkT R):fR R (aD R t):=by
 unfold aD
 split
 ·split
  ·exact (cL h ht).1
  ·exact cb (by decide)
 ·exact .refl h ht
theorem nZ {R:Rd}{k:Int}(h:OkR R)(ht:OkT R):fR R (eZ R k).2:=by
 by_cases h0:R.e=0
 ·by_cases hk:R.now.kind=k
  ·rw[iY h0 hk];exact (cL h ht).1
  ·rw[take_2 h0 hk];exact cb (by decide)
 ·rw[take_3 h0];exact .refl h ht
theorem HX {R:Rd}{k:Int}(ht:OkT R):(eZ R k).1.text.length≤65536∧(eZ R k).1.bytes.length≤300000:=by
 by_cases h0:R.e=0
 ·by_cases hk:R.now.kind=k
  ·rw[iY h0 hk];exact⟨(ht h0).2.2.1,(ht h0).2.2.2.1⟩
  ·rw[take_2 h0 hk];simp
 ·rw[take_3 h0];simp
theorem yd {R:Rd}(h:OkR R)(ht:OkT R):fR R (db R).2∧(db R).1.length≤65536:=by
 have h1:=nZ (k:=1) h ht
 have h2:=HX (R:=R) (k:=1) ht
 unfold db
 refine⟨?_,h2.1⟩
 simp only
 split
 ·exact h1.trans (cb (by decide))
 ·exact h1
theorem jZ {R:Rd}(ps:List UInt8→Int×Int)(hp:∀ s,I64 (ps s).1)(h:OkR R)(ht:OkT R):fR R (ba R ps).2∧I64 (ba R ps).1:=by
 have h1:=nZ (k:=3) h ht
 unfold ba
 simp only
 split
 ·refine⟨?_,hp _⟩
  simp only
  split
  ·exact h1
  ·rename_i hne
   exact h1.trans (cb hne)
 ·exact⟨h1,cB⟩
end Go.Proofs.YtamoeblcphjbaaaGreatDoor
