/- A part. -/
import Derived.Test.YtamoeblcphjbaaaGreatDoorBlLP9
set_option linter.unusedVariables false
set_option linter.unusedSimpArgs false
set_option maxHeartbeats 16000000
set_option maxRecDepth 100000
open Array renaming getElem?_eq_some_iff->Uz,range->Vv,getD_eq_getD_getElem?->Uu,getElem?_modify->Vw
open Nat renaming lt_of_lt_of_le->UG,le_trans->U6,le_refl->UA
open List renaming length_map->Vf,getElem?_map->UB,eq_nil_of_length_eq_zero->UH,getElem?_eq_getElem->Uo,getD_eq_getElem?_getD->Uv,length_drop->UC,length_append->Us,length_cons->Ut,length_singleton->UL,length_nil->Ux
namespace Go.Proofs.YtamoeblcphjbaaaGreatDoor
open Go Go.Ab Go.RowKit
theorem SRel.grow {c:Ctx}{κ:Kap}{σ:aD}(hS:SRel c κ σ)(w':World)(os:Array Obj)(h:w'=Sort.grow κ.w os)(hc:c.w0.heap.size<=κ.w.heap.size) :
  Ext κ ⟨w',κ.nm,κ.imm⟩/\SRel c ⟨w',κ.nm,κ.imm⟩ σ/\∀ imm0,Go.Ab.Left c imm0 κ->Go.Ab.Left c imm0 ⟨w',κ.nm,κ.imm⟩:=by
 have hb:∀ b,b<κ.w.heap.size->w'.heap[b]? = κ.w.heap[b]?:=by
  intro b hb
  rw[h]
  show (κ.w.heap++os)[b]? = _
  rw[Array.getElem?_append,if_pos hb]
 have hsz:κ.w.heap.size<=w'.heap.size:=by rw[h];show _<=(κ.w.heap++os).size;simp
 have he:Ext κ ⟨w',κ.nm,κ.imm⟩:=by
  refine⟨fun _ _ h=>h,fun b o v hi hcl=>?_,fun _ _ h=>h,fun b o ho _=>?_⟩
  ·have:=hb b (hS.immLt b o hi)
   simpa[World.cell?,this] using hcl
  ·exact (hb b (Uz.1 ho).1).trans ho
 refine⟨he,⟨fun r=>?_,hS.apart,hS.mine,fun b o hi=>UG (hS.immLt b o hi) hsz,?_⟩,fun imm0 hL=>⟨?_,?_,?_,U6 hL.size hsz,fun b hlt hl=>(hb b (UG hlt hc)).trans (hL.block b hlt hl),hL.imm⟩⟩
 ·exact (hS.blk r).keep he fun hz d b hd hbk=>⟨hb b ((hS.blk r).lt hz hd hbk),fun o ho=>ho⟩
 ·exact Uc he hS.glob fun g h1 h2=>hb g (UG h1 hc)
 ·show w'.os=_;rw[h];exact hL.os
 ·show w'.tape=_;rw[h];exact hL.tape
 ·show w'.output=_;rw[h];exact hL.output
def oO (f:Fld):List PV:=f.pv.cells
theorem vM (nm:List UInt8)(k n s:Int)(t:List UInt8)(l:List Val)(fs:List Fld):oO (.mk nm (.mk k n s t l fs))=[.str nm,.int .i64 k,.int .i64 n,.int .i64 s,.str t,.list (l.map Val.pv),.list (fs.map Fld.pv)]:=by
 unfold oO;rw[Ub,Un];rfl
theorem iK (f:Fld):(oO f).length=7:=by
 obtain⟨nm,⟨k,n,s,t,l,fs⟩⟩:=f
 rw[vM];rfl
theorem kv:∀ (l:List Fld) (i j:Nat) (f:Fld),l[i]? = some f->j<7->(bD (l.map Fld.pv))[i*7+j]? = ((oO f)[j]?).map AV.pv
 | [],i,j,f,h,_=>by simp at h
 | x::r,0,j,f,h,hj=>by
   simp only[List.getElem?_cons_zero,Option.some.injEq] at h
   subst h
   have:bD ((x::r).map Fld.pv)=(oO x).map AV.pv++bD (r.map Fld.pv):=by simp[bD,oO]
   rw[this,List.getElem?_append_left (by rw[Vf,iK];omega),Nat.zero_mul,Nat.zero_add,UB]
 | x::r,i+1,j,f,h,hj=>by
   have:bD ((x::r).map Fld.pv)=(oO x).map AV.pv++bD (r.map Fld.pv):=by simp[bD,oO]
   rw[this,List.getElem?_append_right (by rw[Vf,iK];omega),Vf,iK,show (i+1)*7+j - 7=i*7+j by omega]
   exact kv r i j f (by simpa using h) hj
theorem dG (l:List Fld):(bD (l.map Fld.pv)).length=l.length*7:=fX (fun f=>iK f) l
theorem Ki {G:Nat->List PV}(l:List Fld)(hl:l.length<=1000000) :
  aI Tryz.prog G 1 167 [.row 0 7 0 l.length,.pv (.clo 168 [] [])] [.cells 39 false (bD (l.map Fld.pv))] (.pv (.tup [])) [.cells 39 false (bD ((srt l).map Fld.pv))]:=by
 refine⟨by kernel_rfl,fun κ vals hS hf hsz hargs=>?_⟩
 have hv:=ua hsz
 have h0:=hargs 0 _ rfl
 have h1:=hargs 1 _ rfl
 generalize vals.getD 0 Go.undef=v0 at *
 generalize vals.getD 1 Go.undef=v1 at *
 subst hv
 have e1:v1 = .func (.func 168) #[] #[]:=by
  have h2:=aS h1
  cases h2 with
  | clo _ _ _ vs us g1 g2 g3 g4=>
    obtain rfl:vs = #[]:=by apply Array.eq_empty_of_size_eq_zero;simpa using g1
    obtain rfl:us = #[]:=by apply Array.eq_empty_of_size_eq_zero;simpa using g3
    rfl
 subst e1
 have hσ:(fun r=>lookB r (cl [Blk.cells 39 false (bD (l.map Fld.pv))] 0)) 0 = .cells 39 false (bD (l.map Fld.pv)):=rfl
 have hR:ff κ 0 (.cells 39 false (bD (l.map Fld.pv))):=hS.blk 0
 generalize hn:l.length=n at h0
 cases h0 with
 | row0=>
   obtain rfl:l=[]:=UH hn
   have hc:=Go.Proofs.AnyF.slices_SortFunc_none (P:=Tryz.prog) (ρ:=Tryz.sortF_ren) { Ui with } none 0 (.func (.func 168) #[] #[]) κ.w
   refine Calls.mono (show Calls Tryz.prog 167 #[.slice none 0 0,.func (.func 168) #[] #[]] κ.w _ from hc) ?_
   rintro e w' ⟨rfl,rfl⟩
   have hs:srt []=[]:=UH (by rw[kV];rfl)
   rw[hs]
   exact⟨_,.pv (.tup []),κ,_,1,rfl,rfl,κ.cut_ext 1,⟨rfl,rfl,rfl,UA _,fun _ _ _=>rfl,fun _ _ h=>.inl h⟩,.pv _ _ (.tup [] #[] rfl (fun i x hx=>by simp at hx)),hS,hf,rfl,rfl,rfl⟩
 | row _ _ _ _ b nn cap hnm h2 h3 h4 h5=>
   subst hn
   rcases hR with ⟨_,_,hx⟩ | ⟨b',n',cs,q1,q2,q3,q4,q5,q6,q7⟩
   ·rw[hx] at hnm;cases hnm
   rw[hnm] at q1;cases q1
   have hcs:l.length*7<=cs.size:=by rw[q3];rw[dG] at q4;exact q4
   have cellAt:∀ (i j:Nat) (f:Fld) (q:PV),l[i]? = some f->j<7->(oO f)[j]? = some q->ARel κ (.pv q) (cs.getD (i*7+j) Go.undef):=by
    intro i j f q hi hj hq
    refine q6 (i*7+j) _ ?_
    rw[kv l i j f hi hj,hq];rfl
   have hXe:∀ i,∃ x:FldC,x.name.data.toList=nmL l i/\(i<l.length->∀ j,j<7->(zE x)[j]! = cs.getD (i*7+j) Go.undef):=by
    intro i
    by_cases hi:i<l.length
    ·obtain⟨f,hfi⟩:∃ f,l[i]? = some f:=⟨_,Uo hi⟩
     obtain⟨nm,⟨k,m,s,t,ls,fs⟩⟩:=f
     have a:=fun j q hj hq=>cellAt i j _ q hfi hj hq
     rw[vM] at a
     obtain⟨s0,a0,a0',_⟩:=ee (a 0 _ (by omega) rfl)
     have o1:=(a 1 _ (by omega) rfl).oneCell rfl
     have o2:=(a 2 _ (by omega) rfl).oneCell rfl
     have o3:=(a 3 _ (by omega) rfl).oneCell rfl
     have o4:=(a 4 _ (by omega) rfl).oneCell rfl
     have o5:=(a 5 _ (by omega) rfl).oneCell rfl
     have o6:=(a 6 _ (by omega) rfl).oneCell rfl
     refine⟨⟨s0,_,_,_,_,_,_,o1,o2,o3,o4,o5,o6⟩,?_,fun _ j hj=>?_⟩
     ·unfold nmL
      rw[Uv,hfi]
      exact a0'.symm
     ·match j,hj with
      | 0,_=>exact a0.symm
      | 1,_=>rfl
      | 2,_=>rfl
      | 3,_=>rfl
      | 4,_=>rfl
      | 5,_=>rfl
      | 6,_=>rfl
    ·exact⟨⟨⟨(nmL l i).toArray⟩,.int .i64 0,.int .i64 0,.int .i64 0,.int .i64 0,.int .i64 0,.int .i64 0,by decide⟩,by simp,fun h=>absurd h hi⟩
   obtain⟨X,hX⟩:=Classical.axiomOfChoice hXe
   have hblk:b<κ.w.heap.size:=(Uz.1 q2).1
   have hH:Sort.HoldsK (fun i=>zE (X i)) 7 κ.w b 0 (Vv l.length):=by
    intro t ht
    rw[Sort.size_flatK,Array.size_range] at ht
    rw[Sort.get_flatK _ _ _ t (by rw[Array.size_range];exact ht)]
    have ht7:t / 7<l.length:=by omega
    have er:(Vv l.length)[t / 7]! = t / 7:=by rw[getElem!_pos _ _ (by simpa using ht7)];simp
    rw[er,(hX (t / 7)).2 ht7 (t % 7) (Nat.mod_lt _ (by omega)),show t / 7*7+t % 7=t by omega]
    have htc:t<cs.size:=by omega
    refine⟨?_,?_⟩
    ·simp[World.cell?,q2,Uu,htc]
    ·simp[World.frozen?,q2]
   have hcmp:Go.Proofs.CmpLays Tryz.prog 168 #[] (fun i=>zE (X i)) 7 (cfL l) b 0 (Vv l.length).size κ.w:=by
    intro m os dk hdk x y
    have:=yN (X x) (X y) (Go.Proofs.sortWorldK (fun i=>zE (X i)) 7 κ.w b 0 m dk os)
    rw[SE,(hX x).1,(hX y).1] at this
    exact this
   have eg:∀ args w,(callFunc 168 args).run Tryz.prog w = .ok (.enter 168 args) w:=enters_of Tryz.func168 (by kernel_rfl) rfl
   have hc:=Go.Proofs.AnyQ.slices_SortFunc_eq (P:=Tryz.prog) (ρ:=Tryz.sortF_ren) Ui 7 Tryz.isAgg39 Tryz.sizeOf39 (fun i=>zE (X i)) (fun _=>rfl) (fun i v hv=>by
    obtain⟨g1,g2,g3,g4,g5,g6⟩:=(X i).one
    simp only[zE,List.mem_cons,List.not_mem_nil,or_false] at hv
    rcases hv with rfl | rfl | rfl | rfl | rfl | rfl | rfl<;>first | rfl | assumption) (cfL l) (TI l) 168 #[] b 0 cap (Vv l.length) κ.w eg hcmp hH hblk (by rw[Array.size_range];omega)
   have hc':Calls Tryz.prog 167 #[.slice (some ⟨b,0,none⟩) l.length cap,.func (.func 168) #[] #[]] κ.w fun e w'=>e = .returned (.tuple #[])/\∃ m os,w'=Go.Proofs.sortWorldK (fun i=>zE (X i)) 7 κ.w b 0 m (sE l) os:=by
    have e2:(Vv l.length).size=l.length:=Array.size_range
    have:=hc
    rw[e2] at this
    unfold sE
    rw[e2]
    exact this
   refine hc'.mono ?_
   rintro e w' ⟨rfl,m,os,rfl⟩
   obtain⟨F,hF⟩:∃ F,F=Sort.flatK (fun i=>zE (X i)) 7 (sE l):=⟨_,rfl⟩
   obtain⟨w1,hw1⟩:∃ w1,w1=Sort.putRow id (Sort.ahead κ.w m) b 0 F:=⟨_,rfl⟩
   have hFs:F.size=l.length*7:=by rw[hF,Sort.size_flatK,iB]
   have hheap:w1.heap=κ.w.heap.modify b (Sort.onCells (Sort.putCells id 0 F)):=by rw[hw1];rfl
   have hb1:w1.heap[b]? = some (.cells (Sort.putCells id 0 F cs) 39 (0,0)):=by
    rw[hheap,Vw,if_pos rfl,q2];rfl
   have hother:∀ b',b'≠b->w1.heap[b']? = κ.w.heap[b']?:=by
    intro b' hb'
    rw[hheap,Vw,if_neg (Ne.symm hb')]
   have hlent:(fun r=>lookB r (cl [Blk.cells 39 false (bD (l.map Fld.pv))] 0)) 0≠.none:=by rw[hσ];exact fun h=>by cases h
   obtain⟨k1,k2⟩:=wR hS (r0:=0) (b0:=b) (d0:=.blk b nn) (Bo:=.cells 39 false (bD ((srt l).map Fld.pv))) (w':=w1) 1
    (by rw[hw1];rfl) (by rw[hw1];rfl) (by rw[hw1];rfl) (by rw[hheap,Array.size_modify]) hother q7 hlent hnm rfl
   have hcs':(Sort.putCells id 0 F cs).size=nn:=by simp[Sort.putCells,q3]
   have hget:∀ t,t<l.length*7->(Sort.putCells id 0 F cs).getD t Go.undef=F[t]!:=by
    intro t ht
    have htc:t<cs.size:=by omega
    rw[Uu]
    simp[Sort.putCells,Array.getElem?_mapIdx,htc,hFs,ht]
   have hB:ff ⟨w1,κ.nm,κ.imm⟩ 0 (.cells 39 false (bD ((srt l).map Fld.pv))):=by
    refine .inr ⟨b,nn,_,hnm,hb1,hcs',by rw[dG,kV];rw[dG] at q4;exact q4,(fun h=>by cases h),fun o x hx=>?_,q7⟩
    have ho:o<l.length*7:=by
     have:=(List.getElem?_eq_some_iff.1 hx).1
     rwa [dG,kV] at this
    have ho7:o / 7<(sE l).size:=by rw[iB];omega
    have hsr:(srt l)[o / 7]? = some (l.getD (sE l)[o / 7]! NL):=by
     unfold srt
     rw[UB,Array.getElem?_toList,Array.getElem?_eq_getElem ho7,getElem!_pos (sE l) (o / 7) ho7];rfl
    have hal:(sE l)[o / 7]! < l.length:=by
     rw[getElem!_pos (sE l) (o / 7) ho7]
     have:=(lm l).mem_iff.1 (Array.getElem_mem_toList ho7)
     simpa using this
    obtain⟨a,ha⟩:∃ a,a=(sE l)[o / 7]!:=⟨_,rfl⟩
    rw[<- ha] at hal hsr
    have hla:l[a]? = some (l.getD a NL):=by rw[Uv,Uo hal];rfl
    have hxa:=kv (srt l) (o / 7) (o % 7) _ hsr (Nat.mod_lt _ (by omega))
    rw[show o / 7*7+o % 7=o by omega,hx] at hxa
    have hxl:=kv l a (o % 7) _ hla (Nat.mod_lt _ (by omega))
    rw[<- hxa] at hxl
    have hrel:=q6 _ _ hxl
    rw[hget o ho,hF,Sort.get_flatK _ _ _ o (by rw[iB];exact ho),<- ha,(hX a).2 hal (o % 7) (Nat.mod_lt _ (by omega))]
    exact hrel.ext k1.ext
   have hS1:=k2 hB
   obtain⟨g1,g2,g3⟩:=SRel.grow hS1 (Go.Proofs.sortWorldK (fun i=>zE (X i)) 7 κ.w b 0 m (sE l) os) os (by
    show _=Sort.grow w1 os
    rw[hw1,hF];rfl) k1.size
   have hL0:Go.Ab.Left (cD κ (fun r=>lookB r (cl [Blk.cells 39 false (bD (l.map Fld.pv))] 0)) G) κ.imm κ:=⟨rfl,rfl,rfl,UA _,fun _ _ _=>rfl,fun _ _ h=>.inl h⟩
   have hσ':(aD.set (fun r=>lookB r (cl [Blk.cells 39 false (bD (l.map Fld.pv))] 0)) 0 (.cells 39 false (bD ((srt l).map Fld.pv))))=fun r=>lookB r (cl [Blk.cells 39 false (bD ((srt l).map Fld.pv))] 0):=by
    funext r
    by_cases hr:r=0
    ·subst hr;rfl
    ·simp only[aD.set,hr,if_false,cl,lookB]
     rw[if_neg (fun e=>hr e.symm),if_neg (fun e=>hr e.symm)]
   rw[hσ'] at g2
   exact⟨_,.pv (.tup []),_,_,1,rfl,rfl,(κ.cut_ext 1).trans (k1.ext.trans g1),g3 _ (k1.left _ hL0),.pv _ _ (.tup [] #[] rfl (fun i x hx=>by simp at hx)),g2,hf,rfl,rfl,rfl⟩
def OkT (R:Rd):Prop:=R.e=0->I64 R.now.num/\R.now.sc<=12/\R.now.text.length<=65536/\R.now.bytes.length<=300000/\(R.now.kind=0->R.now.text=[])
theorem ob:∀ (f:Nat) (l:List UInt8) (i:Nat) (o:List UInt8) {o':List UInt8} {j:Nat},ia f l i o = .done o' j->o'.length<=o.length+4*l.length
 | 0,l,i,o,o',j,h=>by cases h
 | f+1,[],i,o,o',j,h=>by cases h
 | f+1,c::r,i,o,o',j,h=>by
   by_cases h1:c.toNat=34
   ·rw[fJ h1] at h;cases h;omega
   by_cases h2:c.toNat<32\/c.toNat=127
   ·rw[eU h1 h2] at h;cases h
   by_cases h3:c.toNat=92
   ·by_cases h4:r=[]
    ·subst h4;rw[dL h3] at h;cases h
    ·rw[d7 h3 h4] at h
     split at h
     ·rename_i he
      have:=iQ he
      have ih:=ob f _ _ _ h
      rw[UC,Us] at ih
      rw[Ut];omega
     ·cases h
   ·rw[cy h1 h2 h3] at h
    have ih:=ob f _ _ _ h
    rw[Us,UL] at ih
    rw[Ut];omega
theorem oI:∀ (l:List UInt8) (i:Nat) (q:Option Nat) (o:List UInt8) {o':List UInt8} {j:Nat},eb l i q o = .done o' j->o'.length<=o.length+l.length
 | [],i,q,o,o',j,h=>by cases h
 | c::r,i,q,o,o',j,h=>by
   rw[eb] at h
   split at h
   ·cases h;omega
   ·split at h
    ·cases h
    ·split at h
     ·have ih:=oI r _ _ _ h
      rw[Ut];omega
     ·have ih:=oI r _ _ _ h
      rw[Us,UL] at ih
      rw[Ut];omega
theorem Gr (s:List UInt8):I64 (aW s).1.1/\(aW s).1.2<=12:=by
 unfold aW
 split
 ·unfold I64;simp
 split
 ·unfold I64;simp
 split
 ·rename_i h
  obtain⟨⟨h1,h2,h3⟩,_⟩:=h
  unfold I64;simp only;omega
 ·unfold I64;simp
theorem bw:I64 0:=by unfold I64;omega
theorem I4 {R:Rd}{i:Nat}{k:Int}{v:Bool}{z:Sc}(h0:R.now = { pos:=i })(hz:∀ o j,z = .done o j->o.length<=300000)(he:∀ j,¬ z = .bad j 0)(h:(bq R i k v z).e=0) :
  I64 (bq R i k v z).now.num/\(bq R i k v z).now.sc<=12/\(bq R i k v z).now.bytes.length<=300000:=by
 cases z with
 | short=>exact absurd h (bn (by decide))
 | bad j e=>
   by_cases hx:e=0
   ·subst hx;exact absurd rfl (he j)
   ·exact absurd h (bn hx)
 | done o j=>
   have:=hz o j rfl
   simp only[bq]
   split
   ·simp only[cN,h0];exact⟨bw,by omega,this⟩
   ·simp only[h0];exact⟨bw,by omega,this⟩
theorem Pc (R:Rd)(i:Nat)(w:Nat×Bool×Bool)(q:(Int×Nat)×Int)(h1:I64 q.1.1)(h2:q.1.2<=12):I64 (zu R i w q).now.num/\(zu R i w q).now.sc<=12/\(zu R i w q).now.bytes=R.now.bytes:=by
 obtain⟨a,x,y⟩:=w
 obtain⟨⟨n,sc⟩,e⟩:=q
 by_cases he:e=0
 ·subst he;rw[cJ];exact⟨h1,h2,rfl⟩
 ·rw[cI he];simp only[cN];exact⟨h1,h2,trivial⟩
theorem R4 {R:Rd}{i:Nat}{c:UInt8}(hs:R.s.length<=65536)(h0:R.now = { pos:=i })(h:(eO R i c).e=0):I64 (eO R i c).now.num/\(eO R i c).now.sc<=12/\(eO R i c).now.bytes.length<=300000:=by
 unfold eO at h ⊢
 split
 ·rename_i h1;rw[if_pos h1] at h
  exact I4 h0 (fun o j hz=>by have:=ob _ _ _ _ hz;rw[UC,Ux] at this;omega) (fun j=>kQ _ _ _ _) h
 rename_i h1
 rw[if_neg h1] at h
 split
 ·rename_i h2;rw[if_pos h2] at h
  exact I4 h0 (fun o j hz=>by have:=oI _ _ _ _ hz;rw[UC,Ux] at this;omega) (fun j=>lQ _ _ _ _) h
 rename_i h2
 rw[if_neg h2] at h
 split
 ·simp only[h0];exact⟨bw,by omega,by simp⟩
 rename_i h3
 rw[if_neg h3] at h
 split
 ·rename_i h4
  rw[if_pos h4] at h
  obtain⟨a,ha⟩:∃ a,(if R.s[i]? = some 45 then i+1 else i)=a:=⟨_,rfl⟩
  by_cases hz:aN isD R.s a=a
  ·rw[ly ha hz] at h
   exact absurd h (bn (by decide))
  ·rw[cH ha rfl hz rfl]
   have hb:=Gr (ct ((R.s.take (mL R.s (aN isD R.s a)).1).drop i))
   obtain⟨g1,g2,g3⟩:=Pc R i (mL R.s (aN isD R.s a)) (aW (ct ((R.s.take (mL R.s (aN isD R.s a)).1).drop i))) hb.1 hb.2
   rw[g3,h0]
   exact⟨g1,g2,by simp⟩
 rename_i h4
 rw[if_neg h4] at h
 split
 ·simp only[h0];exact⟨bw,by omega,by simp⟩
 rename_i h5
 rw[if_neg h5] at h
 split
 ·simp only[h0];exact⟨bw,by omega,by simp⟩
 ·rename_i h6
  rw[if_neg h6] at h
  exact absurd h (bn (by decide))
theorem I6 {R:Rd}{i:Nat}{k:Int}{v:Bool}{z:Sc}(he:∀ j,¬ z = .bad j 0)(h:(bq R i k v z).e=0):(bq R i k v z).now.kind=k:=by
 cases z with
 | short=>exact absurd h (bn (by decide))
 | bad j e=>
   by_cases hx:e=0
   ·subst hx;exact absurd rfl (he j)
   ·exact absurd h (bn hx)
 | done o j=>rfl
theorem Pq {R:Rd}{i:Nat}{c:UInt8}(h:(eO R i c).e=0):(eO R i c).now.kind≠0:=by
 unfold eO at h ⊢
 split
 ·rename_i h1;rw[if_pos h1] at h
  unfold rI at h ⊢
  rw[I6 (fun j=>kQ _ _ _ _) h];decide
 rename_i h1
 rw[if_neg h1] at h
 split
 ·rename_i h2;rw[if_pos h2] at h
  unfold rK at h ⊢
  rw[I6 (fun j=>lQ _ _ _ _) h];decide
 rename_i h2
 rw[if_neg h2] at h
 split
 ·simp
 rename_i h3
 rw[if_neg h3] at h
 split
 ·rename_i h4
  rw[if_pos h4] at h
  rcases p9 R i with hq | ⟨w,q,hq⟩
  ·rw[hq] at h
   exact absurd h (bn (by decide))
  ·rw[hq];unfold zu;simp
 rename_i h4
 rw[if_neg h4] at h
 split
 ·simp
 rename_i h5
 rw[if_neg h5] at h
 split
 ·simp
 ·rename_i h6
  rw[if_neg h6] at h
  exact absurd h (bn (by decide))
theorem B8 {R:Rd}(hR:OkR R):OkT (aT R)\/aT R=R:=by
 by_cases h:R.e=0
 ·left
  obtain⟨h1,h2,h3,h4⟩:=hR h
  by_cases hi:R.s.length<=aN az R.s R.next
  ·rw[tM h hi]
   exact fun _=>⟨bw,by simp only;omega,by simp,by simp,fun _=>rfl⟩
  ·obtain⟨c,hc⟩:∃ c,R.s[aN az R.s R.next]? = some c:=⟨_,Uo (by omega)⟩
   rw[tL h hc]
   generalize aN az R.s R.next=i at *
   have ht:=R4 (R:={ R with now:={ pos:=i },next:=i }) (i:=i) (c:=c) h1 rfl
   have hs:=G3 { R with now:={ pos:=i },next:=i } i c
   have hk:=Pq (R:={ R with now:={ pos:=i },next:=i }) (i:=i) (c:=c)
   generalize eO { R with now:={ pos:=i },next:=i } i c=L at *
   simp only at hs
   intro he
   rw[kO] at he
   obtain⟨g1,g2,g3⟩:=ht he
   rw[cW he]
   refine⟨g1,g2,?_,g3,fun h=>absurd h (hk he)⟩
   simp only[UC,List.length_take,hs]
   omega
 ·right;exact rB h
def bY (R R':Rd):Prop:=OkR R'/\OkT R'/\R'.s=R.s/\(R'.e=0->R.e=0/\R.now.pos<=R'.now.pos)
theorem bY.refl {R:Rd}(h:OkR R)(ht:OkT R):bY R R:=⟨h,ht,rfl,fun h=>⟨h,UA _⟩⟩
theorem bY.trans {a b c:Rd}(h:bY a b)(k:bY b c):bY a c:=
 ⟨k.1,k.2.1,k.2.2.1.trans h.2.2.1,fun hc=>⟨(h.2.2.2 (k.2.2.2 hc).1).1,U6 (h.2.2.2 (k.2.2.2 hc).1).2 (k.2.2.2 hc).2⟩⟩
theorem bj {R:Rd}{i:Nat}{e:Int}(he:e≠0):bY R (aP R i e):=
 ⟨Lj he,fun h=>absurd h (bn he),l9 _ _ _,fun h=>absurd h (bn he)⟩
theorem aQ {R:Rd}(h:OkR R)(ht:OkT R):bY R (aT R)/\((aT R).e=0->R.now.kind≠0->R.now.pos<(aT R).now.pos):=by
 have h1:=nU h
 have ht':OkT (aT R):=by
  rcases B8 h with h2 | h2
  ·exact h2
  ·rw[h2];exact ht
 refine⟨⟨h1.1,ht',QB R,fun he=>?_⟩,fun he hk=>?_⟩
 ·have h0:=wp he
  have:=h1.2 he
  have:=(h h0).2.1
  exact⟨h0,by omega⟩
 ·have h0:=wp he
  have:=h1.2 he
  have:=(h h0).2.2.2 hk
  omega
theorem aG {R:Rd}{t:List UInt8}(h:OkR R)(ht:OkT R):bY R (aq R t):=by
 unfold aq
 split
 ·split
  ·exact (aQ h ht).1
  ·exact bj (by decide)
 ·exact .refl h ht
theorem cE {R:Rd}{k:Int}(h:OkR R)(ht:OkT R):bY R (bi R k).2:=by
 by_cases h0:R.e=0
 ·by_cases hk:R.now.kind=k
  ·rw[kP h0 hk];exact (aQ h ht).1
  ·rw[take_2 h0 hk];exact bj (by decide)
 ·rw[take_3 h0];exact .refl h ht
theorem At {R:Rd}{k:Int}(ht:OkT R):(bi R k).1.text.length<=65536/\(bi R k).1.bytes.length<=300000:=by
 by_cases h0:R.e=0
 ·by_cases hk:R.now.kind=k
  ·rw[kP h0 hk];exact⟨(ht h0).2.2.1,(ht h0).2.2.2.1⟩
  ·rw[take_2 h0 hk];simp
 ·rw[take_3 h0];simp
theorem py {R:Rd}(h:OkR R)(ht:OkT R):bY R (dm R).2/\(dm R).1.length<=65536:=by
 have h1:=cE (k:=1) h ht
 have h2:=At (R:=R) (k:=1) ht
 unfold dm
 refine⟨?_,h2.1⟩
 simp only
 split
 ·exact h1.trans (bj (by decide))
 ·exact h1
theorem bU {R:Rd}(ps:List UInt8->Int×Int)(hp:∀ s,I64 (ps s).1)(h:OkR R)(ht:OkT R):bY R (aO R ps).2/\I64 (aO R ps).1:=by
 have h1:=cE (k:=3) h ht
 unfold aO
 simp only
 split
 ·refine⟨?_,hp _⟩
  simp only
  split
  ·exact h1
  ·rename_i hne
   exact h1.trans (bj hne)
 ·exact⟨h1,bw⟩
attribute [local irreducible] vc
def mI (val:Rd->Val×Rd)(s:List UInt8):Prop:=
 ∀ R,OkR R->OkT R->R.s=s->(val R).1.ok/\bY R (val R).2/\((val R).2.e=0->R.now.pos<(val R).2.now.pos)
def Nd (T:Nat)(p:PV)(val:Rd->Val×Rd)(s:List UInt8)(d:Nat):Prop:=
 ∀ R,OkR R->OkT R->R.s=s->aI Tryz.prog (bE T p) 1 46 [.ptr 0 0,.pv (.int .i64 (d:Int))] [rdB R] (.pv (val R).1.pv) [rdB (val R).2]
def msr (R:Rd):Nat:=if R.e=0 then R.s.length+1 - R.now.pos else 0
theorem OX {R:Rd}(h:OkR R)(h0:R.e=0):R.now.pos<=R.s.length:=by
 obtain⟨h1,h2,h3,h4⟩:=h h0;omega
theorem fo {R R':Rd}(hR:OkR R)(h0:R.e=0)(h:bY R R')(hp:R'.e=0->R.now.pos<R'.now.pos):msr R'<msr R:=by
 unfold msr
 have:=OX hR h0
 by_cases h1:R'.e=0
 ·have:=hp h1
  rw[if_pos h1,if_pos h0,h.2.2.1];omega
 ·rw[if_neg h1,if_pos h0];omega
theorem kj {val:Rd->Val×Rd}{k:Nat}{first:Bool}{l:List Val}{R:Rd}(h:¬ (R.e=0/\isT R [93]=false)):dp val k first l R=(l,R):=by
 cases k with
 | zero=>rfl
 | succ k=>rw[dp];exact if_neg h
theorem kn {val:Rd->Val×Rd}{k:Nat}{first:Bool}{l:List Val}{R:Rd}(h:R.e=0/\isT R [93]=false) :
  dp val (k+1) first l R=dp val k false (l++[(val (if first=true then R else aq R [44])).1]) (val (if first=true then R else aq R [44])).2:=by
 rw[dp];exact if_pos h
theorem gl {val:Rd->Val×Rd}{s:List UInt8}(hv:mI val s){R:Rd}(b:Bool)(hR:OkR R)(hT:OkT R)(hs:R.s=s)(h0:R.e=0) :
  bY R (if b=true then R else aq R [44])/\bY R (val (if b=true then R else aq R [44])).2/\(val (if b=true then R else aq R [44])).1.ok/\msr (val (if b=true then R else aq R [44])).2<msr R:=by
 have h1:bY R (if b=true then R else aq R [44]):=by
  split
  ·exact .refl hR hT
  ·exact aG hR hT
 generalize (if b=true then R else aq R [44])=R1 at *
 obtain⟨g1,g2,g3⟩:=hv R1 h1.1 h1.2.1 (h1.2.2.1.trans hs)
 refine⟨h1,h1.trans g2,g1,fo hR h0 (h1.trans g2) fun he=>?_⟩
 have:=g3 he
 have:=(h1.2.2.2 (g2.2.2.2 he).1).2
 omega
theorem vd {val:Rd->Val×Rd}{s:List UInt8}(hv:mI val s):∀ (k:Nat) (b:Bool) (l:List Val) (R:Rd),OkR R->OkT R->R.s=s->(∀ x∈l,x.ok) ->
  (∀ x∈(dp val k b l R).1,x.ok)/\bY R (dp val k b l R).2/\(dp val k b l R).1.length<=l.length+k
 | 0,b,l,R,h1,h2,h3,h4=>⟨h4,.refl h1 h2,UA _⟩
 | k+1,b,l,R,h1,h2,h3,h4=>by
   by_cases h:R.e=0/\isT R [93]=false
   ·rw[kn h]
    obtain⟨g1,g2,g3,g4⟩:=gl hv b h1 h2 h3 h.1
    generalize val (if b=true then R else aq R [44])=q at *
    obtain⟨k1,k2,k3⟩:=vd hv k false (l++[q.1]) q.2 g2.1 g2.2.1 (g2.2.2.1.trans h3) (fun x hx=>by
     rcases List.mem_append.1 hx with hx | hx
     ·exact h4 x hx
     ·rw[List.mem_singleton.1 hx];exact g3)
    refine⟨k1,g2.trans k2,?_⟩
    rw[Us,UL] at k3
    omega
   ·rw[kj h]
    exact⟨h4,.refl h1 h2,by simp only;omega⟩
theorem Qm (w1 w2 w3:Int)(w4:List UInt8)(w5 w6:List PV):jk 6 1 [.pv (.agg [.int .i64 w1,.int .i64 w2,.int .i64 w3,.str w4,.list w5,.list w6])]=some (.pv (.list [.agg [.int .i64 w1,.int .i64 w2,.int .i64 w3,.str w4,.list w5,.list w6]]),[]):=
 fS rfl rfl
section
variable {T:Nat}{p:PV}
theorem Jj (val:Rd->Val×Rd)(s:List UInt8)(d:Nat)(hd:d<=10)(hv:mI val s)(hc:Nd T p val s (d+1))(R:Rd)(hR:OkR R)(hT:OkT R)(hs:R.s=s)(hsl:s.length<=65536) :
  aI Tryz.prog (bE T p) 1 98 [.ptr 0 0,.pv (.int .i64 (d:Int))] [rdB R] (.pv (Val.mk 8 0 0 [] (dp val (s.length+2) true [] R).1 []).pv) [rdB (aq (dp val (s.length+2) true [] R).2 [93])]:=by
 obtain⟨Z,hZ⟩:∃ Z,Z=dp val (s.length+2) true [] R:=⟨_,rfl⟩
 rw[<- hZ]
 refine aI.intro Q98.2 (by simp[Q98]) ?_
 simp(disch:=try exact dI) only[Q98,push_cast,seval]
 refine aK ([(5,5,25,6)]) (fun y:Bool×List Val×Rd=>[(6,.pv (.bool y.1))]) (fun y=>[(0,rdB y.2.2),(2,.cells 25 true [.pv (.int .i64 8),.pv (.int .i64 0),.pv (.int .i64 0),.pv (.str []),.olist 3 6 (y.2.1.map Val.pv),.pv .nils])]) (fun y=>OkR y.2.2/\OkT y.2.2/\y.2.2.s=s/\y.2.1.length+msr y.2.2<=s.length+1/\∃ k,msr y.2.2<k/\Z=dp val k y.1 y.2.1 y.2.2) (fun y=>msr y.2.2) ((true,[],R)) ?_;intro e0 σ0 n0 h0;simp(disch:=try exact dI) only[push_cast,seval] at h0;obtain⟨rfl,rfl,rfl⟩:=h0;refine⟨?_,?_,?_⟩
 ·simp(disch:=try exact dI) only[rdB,rdC,push_cast,seval]
 ·refine⟨hR,hT,hs,?_,s.length+2,?_,hZ⟩
  ·simp only[Ux,msr,hs];split<;>omega
  ·simp only[msr,hs];split<;>omega
 rintro⟨b,l,L⟩ ⟨h1,h2,h3,h4,k,hk,hZk⟩
 simp only at h1 h2 h3 h4 hk hZk
 obtain⟨k,rfl⟩:∃ j,k=j+1:=⟨k - 1,by omega⟩
 have hex:=aJ (T:=T) (p:=p) L [93] h1
 have fin:¬ (L.e=0/\isT L [93]=false)->Z=(l,L):=fun h=>hZk.trans (kj h)
 by_cases h0:L.e=0
 ·have h0I:(L.e=0)=True:=eq_true h0
  have his:=yc (T:=T) (p:=p) L [93]
  cases hi:isT L [93] with
  | true=>
    rw[hi] at his
    have hZf:=fin (fun q=>by rw[hi] at q;cases q.2)
    subst hZf
    simp only[rdB,rdC] at his hex
    simp(disch:=try exact dI) only[rdB,rdC,h0I,push_cast,seval]
    refine ae.lentK his [0] rfl qsZ qsZ ?_
    refine zgZ ?_
    refine ae.lentK hex [0] rfl qsZ qsZ ?_
    refine zgZ ?_
    exact am [] (by simp(disch:=try exact dI) only[rdB,rdC,Un,push_cast,seval])
  | false=>
    rw[hi] at his
    rw[kn ⟨h0,hi⟩] at hZk
    obtain⟨g1,g2,g3,g4⟩:=gl hv b h1 h2 h3 h0
    have hcall:=hc (if b=true then L else aq L [44]) g1.1 g1.2.1 (g1.2.2.1.trans h3)
    have hco:=aJ (T:=T) (p:=p) L [44] h1
    cases b with
    | true=>
      rw[if_pos rfl] at hcall hZk g1 g2 g3 g4
      generalize val L=q at *
      obtain⟨v,L2⟩:=q
      simp only at hcall hZk g2 g3 g4
      have hl:l.length<=65540:=by omega
      have hmp:(l++[v]).map Val.pv=l.map Val.pv++[v.pv]:=by simp
      obtain⟨w1,w2,w3,w4,w5,w6⟩:=v
      have hbs:=Qm w1 w2 w3 w4 (w5.map Val.pv) (w6.map Fld.pv)
      simp only[rdB,rdC,Un] at his hcall
      simp(disch:=try exact dI) only[rdB,rdC,h0I,push_cast,seval]
      refine ae.lentK his [0] rfl qsZ qsZ ?_
      refine zgZ ?_
      refine aX hcall [0] rfl qsZ qsZ ?_
      simp(disch:=try exact dI) only[hbs,push_cast,seval]
      exact⟨(false,l++[.mk w1 w2 w3 w4 w5 w6],L2),bu (by simp(disch:=try exact dI) only[rdB,rdC,hmp,Un,push_cast,seval]),⟨g2.1,g2.2.1,g2.2.2.1.trans h3,by simp only[Us,UL];omega,k,by simp only;omega,hZk⟩,by simp only;omega⟩
    | false=>
      rw[if_neg (by decide)] at hcall hZk g1 g2 g3 g4
      generalize aq L [44]=L1 at *
      generalize val L1=q at *
      obtain⟨v,L2⟩:=q
      simp only at hcall hZk g2 g3 g4
      have hl:l.length<=65540:=by omega
      have hmp:(l++[v]).map Val.pv=l.map Val.pv++[v.pv]:=by simp
      obtain⟨w1,w2,w3,w4,w5,w6⟩:=v
      have hbs:=Qm w1 w2 w3 w4 (w5.map Val.pv) (w6.map Fld.pv)
      simp only[rdB,rdC,Un] at his hcall hco
      simp(disch:=try exact dI) only[rdB,rdC,h0I,push_cast,seval]
      refine ae.lentK his [0] rfl qsZ qsZ ?_
      refine zgZ ?_
      refine ae.lentK hco [0] rfl qsZ qsZ ?_
      refine zgZ ?_
      refine aX hcall [0] rfl qsZ qsZ ?_
      simp(disch:=try exact dI) only[hbs,push_cast,seval]
      exact⟨(false,l++[.mk w1 w2 w3 w4 w5 w6],L2),bu (by simp(disch:=try exact dI) only[rdB,rdC,hmp,Un,push_cast,seval]),⟨g2.1,g2.2.1,g2.2.2.1.trans h3,by simp only[Us,UL];omega,k,by simp only;omega,hZk⟩,by simp only;omega⟩
 ·have hZf:=fin (fun q=>h0 q.1)
  subst hZf
  simp only[rdB,rdC] at hex
  simp(disch:=try exact dI) only[rdB,rdC,h0,push_cast,seval]
  refine ae.lentK hex [0] rfl qsZ qsZ ?_
  refine zgZ ?_
  exact am [] (by simp(disch:=try exact dI) only[rdB,rdC,Un,push_cast,seval])
end
