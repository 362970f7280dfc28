/- A part. -/
import Derived.Shelf.SlGeneric
import Derived.Shelf.SlSortCmp.WholeK
import Derived.Ground.SlsfProg
import Derived.Test.YtamoeblcphjbaaaGreatDoorProg
import Derived.WalkKit
import Derived.WalkMore
import Derived.Deep.Draws
import Derived.Shelf.SlSortCmp.NoneTotal
import Derived.Test.YtamoeblcphjbaaaGreatDoorTyLP8
set_option linter.unusedVariables false
set_option linter.unusedSimpArgs false
/-
 DERIVED: THE SHELF's CONTRACTS AT THIS DUMP,IN PLAIN WORDS (tools/lay-plain.mjs out of 'TryzC9.lean',which tools/lay-shelf.mjs wrote): THE SAME DECLARATIONS UNDER THE SAME NAMES: 'import','namespace','open','def','theorem' AND NOTHING ELSE: no command of the shelf's: FOR A HAND-IN. Each laying: the table of numbers ('.._ren') and one theorem,a field a fact of the dump's own or the kernel's comparison;each ly: ONE APPLICATION.
-/
set_option maxHeartbeats 16000000
open Array renaming range->XI,getElem?_eq_some_iff->WU,getD_eq_getD_getElem?->WM,getElem?_modify->XR
open List renaming range->Xq,take_of_length_le->Xm,length_map->XC,getD_eq_getElem?_getD->WN,getElem?_eq_getElem->WE,getElem?_eq_some_iff->WH,getElem?_map->WW,eq_nil_of_length_eq_zero->WY,length_drop->Xh,length_append->WF,length_cons->WG,length_singleton->Xi,length_nil->WL
open Nat renaming zero_le->Xr,le_refl->WX,lt_of_lt_of_le->W0,le_trans->Xv
namespace Go.Proofs
open Go.Shelf
def Tryz.sortF_ren:Go.Shelf.Ren:=⟨fun | 6=>167 | 15=>211 | 14=>210 | 28=>245 | 29=>215 | 20=>237 | 21=>238 | 22=>239 | 23=>240 | 24=>241 | 25=>242 | 26=>243 | 27=>244 | 46=>262 | 47=>263 | 48=>264 | 49=>265 | 50=>266 | 57=>276 | n=>n,fun | 22=>23 | 24=>39 | 25=>130 | 3=>3 | 39=>163 | 0=>0 | 53=>206 | 55=>181 | 4=>4 | 46=>233 | 45=>232 | 50=>237 | 5=>5 | 9=>9 | 66=>251 | 70=>104 | 76=>266 | 77=>186 | n=>n,fun | n=>n⟩
theorem Wy:Go.Proofs.SlLaysF0.n6 Tryz.prog Tryz.sortF_ren:={
 mixed:=by kernel_rfl
 f6:=⟨Tryz.f167.name,by decide,Tryz.func167.trans (congrArg some (by kernel_rfl))⟩
 f14:=⟨Tryz.f210.name,by decide,Tryz.func210.trans (congrArg some (by kernel_rfl))⟩
 f15:=Tryz.func211.trans (congrArg some (by kernel_rfl))
 f20:=⟨Tryz.f237.name,by decide,Tryz.func237.trans (congrArg some (by kernel_rfl))⟩
 f21:=⟨Tryz.f238.name,by decide,Tryz.func238.trans (congrArg some (by kernel_rfl))⟩
 f22:=⟨Tryz.f239.name,by decide,Tryz.func239.trans (congrArg some (by kernel_rfl))⟩
 f23:=⟨Tryz.f240.name,by decide,Tryz.func240.trans (congrArg some (by kernel_rfl))⟩
 f24:=⟨Tryz.f241.name,by decide,Tryz.func241.trans (congrArg some (by kernel_rfl))⟩
 f25:=⟨Tryz.f242.name,by decide,Tryz.func242.trans (congrArg some (by kernel_rfl))⟩
 f26:=⟨Tryz.f243.name,by decide,Tryz.func243.trans (congrArg some (by kernel_rfl))⟩
 f27:=⟨Tryz.f244.name,by decide,Tryz.func244.trans (congrArg some (by kernel_rfl))⟩
 f28:=Tryz.func245.trans (congrArg some (by kernel_rfl))
 f29:=Tryz.func215.trans (congrArg some (by kernel_rfl))
 f46:=⟨Tryz.f262.name,by decide,Tryz.func262.trans (congrArg some (by kernel_rfl))⟩
 f47:=Tryz.func263.trans (congrArg some (by kernel_rfl))
 f48:=Tryz.func264.trans (congrArg some (by kernel_rfl))
 f49:=⟨Tryz.f265.name,by decide,Tryz.func265.trans (congrArg some (by kernel_rfl))⟩
 f50:=⟨Tryz.f266.name,by decide,Tryz.func266.trans (congrArg some (by kernel_rfl))⟩
 f57:=⟨Tryz.f276.name,by decide,Tryz.func276.trans (congrArg some (by kernel_rfl))⟩
 t0:=Tryz.underlying0
 a0:=Tryz.isAgg0
 z0:=Tryz.sizeOf0
 v0:=Tryz.zeroValue0
 t3:=Tryz.underlying3
 a3:=Tryz.isAgg3
 z3:=Tryz.sizeOf3
 v3:=Tryz.zeroValue3
 t4:=Tryz.underlying4
 a4:=Tryz.isAgg4
 z4:=Tryz.sizeOf4
 v4:=Tryz.zeroValue4
 t5:=Tryz.underlying5
 a5:=Tryz.isAgg5
 z5:=Tryz.sizeOf5
 v5:=Tryz.zeroValue5
 t9:=Tryz.underlying9
 a9:=Tryz.isAgg9
 z9:=Tryz.sizeOf9
 v9:=Tryz.zeroValue9
 t22:=Tryz.underlying23
 a22:=Tryz.isAgg23
 z22:=Tryz.sizeOf23
 v22:=Tryz.zeroValue23
 t25:=Tryz.underlying130
 a25:=Tryz.isAgg130
 z25:=Tryz.sizeOf130
 v25:=Tryz.zeroValue130
 t39:=Tryz.underlying163
 a39:=Tryz.isAgg163
 z39:=Tryz.sizeOf163
 v39:=Tryz.zeroValue163
 t45:=Tryz.underlying232
 a45:=Tryz.isAgg232
 z45:=Tryz.sizeOf232
 v45:=Tryz.zeroValue232
 t46:=Tryz.underlying233
 a46:=Tryz.isAgg233
 z46:=Tryz.sizeOf233
 v46:=Tryz.zeroValue233
 t50:=Tryz.underlying237
 a50:=Tryz.isAgg237
 z50:=Tryz.sizeOf237
 v50:=Tryz.zeroValue237
 t53:=Tryz.underlying206
 a53:=Tryz.isAgg206
 z53:=Tryz.sizeOf206
 v53:=Tryz.zeroValue206
 t55:=Tryz.underlying181
 a55:=Tryz.isAgg181
 z55:=Tryz.sizeOf181
 v55:=Tryz.zeroValue181
 t66:=Tryz.underlying251
 a66:=Tryz.isAgg251
 z66:=Tryz.sizeOf251
 v66:=Tryz.zeroValue251
 t70:=Tryz.underlying104
 a70:=Tryz.isAgg104
 z70:=Tryz.sizeOf104
 v70:=Tryz.zeroValue104
 t76:=Tryz.underlying266
 a76:=Tryz.isAgg266
 z76:=Tryz.sizeOf266
 v76:=Tryz.zeroValue266
 t77:=Tryz.underlying186
 a77:=Tryz.isAgg186
 z77:=Tryz.sizeOf186
 v77:=Tryz.zeroValue186 }
end Go.Proofs
set_option maxRecDepth 100000
namespace Go.Proofs.YtamoeblcphjbaaaGreatDoor
open Go Go.Proofs Go.Shelf Go.RowKit Go.Lib Go.Sort
structure FldC where
 name:ByteArray
 c1:Value
 c2:Value
 c3:Value
 c4:Value
 c5:Value
 c6:Value
 one:c1.oneCell'=true/\c2.oneCell'=true/\c3.oneCell'=true/\c4.oneCell'=true/\c5.oneCell'=true/\c6.oneCell'=true
instance:Inhabited FldC:=⟨⟨.empty,.int .i64 0,.int .i64 0,.int .i64 0,.int .i64 0,.int .i64 0,.int .i64 0,by decide⟩⟩
def Bi (x:FldC):List Value:=[.string x.name,x.c1,x.c2,x.c3,x.c4,x.c5,x.c6]
def UM (x y:FldC):Int:=Lib.compareBytes x.name.data.toList y.name.data.toList
theorem AP (x y:FldC)(W:World):Calls Tryz.prog 168 #[.agg (Bi x).toArray,.agg (Bi y).toArray] W fun e w'=>e = .returned (.int .i64 (UM x y))/\∃ q os',w'=grow (W.drewN q) os':=by
 obtain⟨s,a1,a2,a3,a4,a5,a6,ha⟩:=x
 obtain⟨t,b1,b2,b3,b4,b5,b6,hb⟩:=y
 have hcon:=fun W'=>Wz s t W'
 simp only[Bi,UM]
 generalize Lib.compareBytes s.data.toList t.data.toList=r at hcon ⊢
 go_enter Tryz.func168,Tryz.ntmps168
 go_wp2_with (go_at_call 103;refine (hcon _).mono ?_;rintro e w' ⟨rfl,rfl⟩)
 go_ret
 exact⟨rfl,0,_,by rw[alloc_eq_grow,alloc_eq_grow,grow_grow];rfl⟩
open Go.Ab
def PT:Fld:=.mk [] (.mk 0 0 0 [] [] [])
def nmL (l:List Fld)(i:Nat):List UInt8:=(l.getD i PT).name
def cfL (l:List Fld)(i j:Nat):Int:=Lib.compareBytes (nmL l i) (nmL l j)
def nE (l:List Fld):Array Nat:=Sort.pdq (Go.Proofs.ltOf (cfL l)) (XI l.length) 0 (XI l.length).size (Lib.bitLen (XI l.length).size) true true
def srt (l:List Fld):List Fld:=(nE l).toList.map fun i=>l.getD i PT
theorem lC:∀ (a b c:List UInt8),Lib.compareBytes a b<0->Lib.compareBytes b c<0->Lib.compareBytes a c<0
 | [],b,[],h1,h2=>by
   cases b with
   | nil=>exact h2
   | cons x q=>simp[Lib.compareBytes] at h2
 | [],b,z::r,h1,h2=>by simp[Lib.compareBytes]
 | x::p,[],c,h1,h2=>by simp[Lib.compareBytes] at h1
 | x::p,y::q,[],h1,h2=>by simp[Lib.compareBytes] at h2
 | x::p,y::q,z::r,h1,h2=>by
   have ih:=lC p q r
   simp only[Lib.compareBytes,UInt8.lt_iff_toNat_lt] at *
   repeat' split at h1
   all_goals repeat' split at h2
   all_goals repeat' split
   all_goals first | omega | exact ih h1 h2 | (exfalso;omega)
theorem sE:∀ (a b c:List UInt8),¬ Lib.compareBytes a b<0->¬ Lib.compareBytes b c<0->¬ Lib.compareBytes a c<0
 | [],[],c,h1,h2=>h2
 | [],y::q,c,h1,h2=>by simp[Lib.compareBytes] at h1
 | x::p,b,[],h1,h2=>by simp[Lib.compareBytes]
 | x::p,[],z::r,h1,h2=>by simp[Lib.compareBytes] at h2
 | x::p,y::q,z::r,h1,h2=>by
   have ih:=sE p q r
   simp only[Lib.compareBytes,UInt8.lt_iff_toNat_lt] at *
   repeat' split at h1
   all_goals repeat' split at h2
   all_goals repeat' split
   all_goals first | omega | exact ih h1 h2 | (exfalso;omega)
theorem qm:∀ a:List UInt8,Lib.compareBytes a a=0
 | []=>rfl
 | x::p=>by
   have:=qm p
   simp only[Lib.compareBytes,UInt8.lt_iff_toNat_lt]
   rw[if_neg (by omega),if_neg (by omega)];exact this
theorem TG (l:List Fld):Sort.SWO (Go.Proofs.ltOf (cfL l)) where
 irrefl x:=decide_eq_false (by rw[cfL,qm];decide)
 trans x y z h1 h2:=decide_eq_true (lC _ _ _ (of_decide_eq_true h1) (of_decide_eq_true h2))
 ntrans x y z h1 h2:=decide_eq_false (sE _ _ _ (of_decide_eq_false h1) (of_decide_eq_false h2))
theorem mm (l:List Fld):(nE l).toList.Perm (Xq l.length):=by
 have h:=(Sort.pdq_sorts (Go.Proofs.ltOf (cfL l)) (TG l) (XI l.length) 0 (XI l.length).size (Lib.bitLen (XI l.length).size) true true (Xr _) (WX _) (Or.inl rfl)).1
 obtain⟨h1,_,h3⟩:=h
 have e1:(nE l).size=(XI l.length).size:=h1
 have h4:((nE l).extract 0 (XI l.length).size).toList.Perm ((XI l.length).extract 0 (XI l.length).size).toList:=h3
 simp only[Array.size_range] at e1
 simp only[Array.size_range,Array.toList_extract,List.extract_eq_take_drop,List.drop_zero,Nat.sub_zero,Array.toList_range] at h4
 rw[Xm (by simp[e1]),Xm (by simp)] at h4
 exact h4
theorem tU (l:List Fld):Sort.SortedIn (Go.Proofs.ltOf (cfL l)) 0 (XI l.length).size (nE l):=
 (Sort.pdq_sorts (Go.Proofs.ltOf (cfL l)) (TG l) (XI l.length) 0 (XI l.length).size (Lib.bitLen (XI l.length).size) true true (Xr _) (WX _) (Or.inl rfl)).2
theorem eO (l:List Fld):(nE l).size=l.length:=by
 have:=(mm l).length_eq
 simpa using this
theorem jM (l:List Fld):(srt l).length=l.length:=by
 unfold srt;rw[XC,Array.length_toList,eO]
theorem nF:∀ (l:List Fld),(Xq l.length).map (fun i=>l.getD i PT)=l:=by
 intro l
 apply List.ext_getElem
 ·simp
 ·intro i h1 h2
  simp[WN,WE h2]
theorem pd (l:List Fld):(srt l).Perm l:=by
 have:=(mm l).map fun i=>l.getD i PT
 rwa [nF] at this
theorem yR (l:List Fld)(i j:Nat)(x y:Fld)(hij:i<j)(hx:(srt l)[i]? = some x)(hy:(srt l)[j]? = some y):¬ Lib.compareBytes y.name x.name<0:=by
 have hj:j<(nE l).size:=by
  have:=(WH.1 hy).1
  rw[jM] at this;rw[eO];exact this
 have hs:=tU l i j (Xr _) hij (by simp;rw[<- eO];exact hj)
 unfold srt at hx hy
 rw[WW,Option.map_eq_some_iff] at hx hy
 obtain⟨a,ha,rfl⟩:=hx
 obtain⟨b,hb,rfl⟩:=hy
 have ea:(nE l)[i]! = a:=by
  have:(nE l)[i]? = some a:=by simpa using ha
  rw[getElem!_def,this]
 have eb:(nE l)[j]! = b:=by
  have:(nE l)[j]? = some b:=by simpa using hb
  rw[getElem!_def,this]
 rw[ea,eb] at hs
 simpa[Go.Proofs.ltOf,cfL,nmL] using hs
theorem SRel.grow {c:Ctx}{κ:Kap}{σ:aE}(hS:SRel c κ σ)(w':World)(os:Array Obj)(h:w'=Sort.grow κ.w os)(hc:c.w0.heap.size<=κ.w.heap.size) :
  Ext κ ⟨w',κ.nm,κ.imm⟩/\SRel c ⟨w',κ.nm,κ.imm⟩ σ/\∀ imm0,Go.Ab.Left c imm0 κ->Go.Ab.Left c imm0 ⟨w',κ.nm,κ.imm⟩:=by
 have hb:∀ b,b<κ.w.heap.size->w'.heap[b]? = κ.w.heap[b]?:=by
  intro b hb
  rw[h]
  show (κ.w.heap++os)[b]? = _
  rw[Array.getElem?_append,if_pos hb]
 have hsz:κ.w.heap.size<=w'.heap.size:=by rw[h];show _<=(κ.w.heap++os).size;simp
 have he:Ext κ ⟨w',κ.nm,κ.imm⟩:=by
  refine⟨fun _ _ h=>h,fun b o v hi hcl=>?_,fun _ _ h=>h,fun b o ho _=>?_⟩
  ·have:=hb b (hS.immLt b o hi)
   simpa[World.cell?,this] using hcl
  ·exact (hb b (WU.1 ho).1).trans ho
 refine⟨he,⟨fun r=>?_,hS.apart,hS.mine,fun b o hi=>W0 (hS.immLt b o hi) hsz,?_⟩,fun imm0 hL=>⟨?_,?_,?_,Xv hL.size hsz,fun b hlt hl=>(hb b (W0 hlt hc)).trans (hL.block b hlt hl),hL.imm⟩⟩
 ·exact (hS.blk r).keep he fun hz d b hd hbk=>⟨hb b ((hS.blk r).lt hz hd hbk),fun o ho=>ho⟩
 ·exact Wr he hS.glob fun g h1 h2=>hb g (W0 h1 hc)
 ·show w'.os=_;rw[h];exact hL.os
 ·show w'.tape=_;rw[h];exact hL.tape
 ·show w'.output=_;rw[h];exact hL.output
def pV (f:Fld):List PV:=f.pv.cells
theorem xB (nm:List UInt8)(k n s:Int)(t:List UInt8)(l:List Val)(fs:List Fld):pV (.mk nm (.mk k n s t l fs))=[.str nm,.int .i64 k,.int .i64 n,.int .i64 s,.str t,.list (l.map Val.pv),.list (fs.map Fld.pv)]:=by
 unfold pV;rw[Wq,WD];rfl
theorem jq (f:Fld):(pV f).length=7:=by
 obtain⟨nm,⟨k,n,s,t,l,fs⟩⟩:=f
 rw[xB];rfl
theorem ln:∀ (l:List Fld) (i j:Nat) (f:Fld),l[i]? = some f->j<7->(bQ (l.map Fld.pv))[i*7+j]? = ((pV f)[j]?).map AV.pv
 | [],i,j,f,h,_=>by simp at h
 | x::r,0,j,f,h,hj=>by
   simp only[List.getElem?_cons_zero,Option.some.injEq] at h
   subst h
   have:bQ ((x::r).map Fld.pv)=(pV x).map AV.pv++bQ (r.map Fld.pv):=by simp[bQ,pV]
   rw[this,List.getElem?_append_left (by rw[XC,jq];omega),Nat.zero_mul,Nat.zero_add,WW]
 | x::r,i+1,j,f,h,hj=>by
   have:bQ ((x::r).map Fld.pv)=(pV x).map AV.pv++bQ (r.map Fld.pv):=by simp[bQ,pV]
   rw[this,List.getElem?_append_right (by rw[XC,jq];omega),XC,jq,show (i+1)*7+j - 7=i*7+j by omega]
   exact ln r i j f (by simpa using h) hj
theorem dR (l:List Fld):(bQ (l.map Fld.pv)).length=l.length*7:=gC (fun f=>jq f) l
theorem MJ {G:Nat->List PV}(l:List Fld)(hl:l.length<=1000000) :
  aP Tryz.prog G 1 167 [.row 0 7 0 l.length,.pv (.clo 168 [] [])] [.cells 39 false (bQ (l.map Fld.pv))] (.pv (.tup [])) [.cells 39 false (bQ ((srt l).map Fld.pv))]:=by
 refine⟨by kernel_rfl,fun κ vals hS hf hsz hargs=>?_⟩
 have hv:=vD hsz
 have h0:=hargs 0 _ rfl
 have h1:=hargs 1 _ rfl
 generalize vals.getD 0 Go.undef=v0 at *
 generalize vals.getD 1 Go.undef=v1 at *
 subst hv
 have e1:v1 = .func (.func 168) #[] #[]:=by
  have h2:=aT h1
  cases h2 with
  | clo _ _ _ vs us g1 g2 g3 g4=>
    obtain rfl:vs = #[]:=by apply Array.eq_empty_of_size_eq_zero;simpa using g1
    obtain rfl:us = #[]:=by apply Array.eq_empty_of_size_eq_zero;simpa using g3
    rfl
 subst e1
 have hσ:(fun r=>lookB r (cB [Blk.cells 39 false (bQ (l.map Fld.pv))] 0)) 0 = .cells 39 false (bQ (l.map Fld.pv)):=rfl
 have hR:fM κ 0 (.cells 39 false (bQ (l.map Fld.pv))):=hS.blk 0
 generalize hn:l.length=n at h0
 cases h0 with
 | row0=>
   obtain rfl:l=[]:=WY hn
   have hc:=Go.Proofs.AnyF.slices_SortFunc_none (P:=Tryz.prog) (ρ:=Tryz.sortF_ren) { Wy with } none 0 (.func (.func 168) #[] #[]) κ.w
   refine Calls.mono (show Calls Tryz.prog 167 #[.slice none 0 0,.func (.func 168) #[] #[]] κ.w _ from hc) ?_
   rintro e w' ⟨rfl,rfl⟩
   have hs:srt []=[]:=WY (by rw[jM];rfl)
   rw[hs]
   exact⟨_,.pv (.tup []),κ,_,1,rfl,rfl,κ.cut_ext 1,⟨rfl,rfl,rfl,WX _,fun _ _ _=>rfl,fun _ _ h=>.inl h⟩,.pv _ _ (.tup [] #[] rfl (fun i x hx=>by simp at hx)),hS,hf,rfl,rfl,rfl⟩
 | row _ _ _ _ b nn cap hnm h2 h3 h4 h5=>
   subst hn
   rcases hR with ⟨_,_,hx⟩ | ⟨b',n',cs,q1,q2,q3,q4,q5,q6,q7⟩
   ·rw[hx] at hnm;cases hnm
   rw[hnm] at q1;cases q1
   have hcs:l.length*7<=cs.size:=by rw[q3];rw[dR] at q4;exact q4
   have cellAt:∀ (i j:Nat) (f:Fld) (q:PV),l[i]? = some f->j<7->(pV f)[j]? = some q->ARel κ (.pv q) (cs.getD (i*7+j) Go.undef):=by
    intro i j f q hi hj hq
    refine q6 (i*7+j) _ ?_
    rw[ln l i j f hi hj,hq];rfl
   have hXe:∀ i,∃ x:FldC,x.name.data.toList=nmL l i/\(i<l.length->∀ j,j<7->(Bi x)[j]! = cs.getD (i*7+j) Go.undef):=by
    intro i
    by_cases hi:i<l.length
    ·obtain⟨f,hfi⟩:∃ f,l[i]? = some f:=⟨_,WE hi⟩
     obtain⟨nm,⟨k,m,s,t,ls,fs⟩⟩:=f
     have a:=fun j q hj hq=>cellAt i j _ q hfi hj hq
     rw[xB] at a
     obtain⟨s0,a0,a0',_⟩:=fm (a 0 _ (by omega) rfl)
     have o1:=(a 1 _ (by omega) rfl).oneCell rfl
     have o2:=(a 2 _ (by omega) rfl).oneCell rfl
     have o3:=(a 3 _ (by omega) rfl).oneCell rfl
     have o4:=(a 4 _ (by omega) rfl).oneCell rfl
     have o5:=(a 5 _ (by omega) rfl).oneCell rfl
     have o6:=(a 6 _ (by omega) rfl).oneCell rfl
     refine⟨⟨s0,_,_,_,_,_,_,o1,o2,o3,o4,o5,o6⟩,?_,fun _ j hj=>?_⟩
     ·unfold nmL
      rw[WN,hfi]
      exact a0'.symm
     ·match j,hj with
      | 0,_=>exact a0.symm
      | 1,_=>rfl
      | 2,_=>rfl
      | 3,_=>rfl
      | 4,_=>rfl
      | 5,_=>rfl
      | 6,_=>rfl
    ·exact⟨⟨⟨(nmL l i).toArray⟩,.int .i64 0,.int .i64 0,.int .i64 0,.int .i64 0,.int .i64 0,.int .i64 0,by decide⟩,by simp,fun h=>absurd h hi⟩
   obtain⟨X,hX⟩:=Classical.axiomOfChoice hXe
   have hblk:b<κ.w.heap.size:=(WU.1 q2).1
   have hH:Sort.HoldsK (fun i=>Bi (X i)) 7 κ.w b 0 (XI l.length):=by
    intro t ht
    rw[Sort.size_flatK,Array.size_range] at ht
    rw[Sort.get_flatK _ _ _ t (by rw[Array.size_range];exact ht)]
    have ht7:t / 7<l.length:=by omega
    have er:(XI l.length)[t / 7]! = t / 7:=by rw[getElem!_pos _ _ (by simpa using ht7)];simp
    rw[er,(hX (t / 7)).2 ht7 (t % 7) (Nat.mod_lt _ (by omega)),show t / 7*7+t % 7=t by omega]
    have htc:t<cs.size:=by omega
    refine⟨?_,?_⟩
    ·simp[World.cell?,q2,WM,htc]
    ·simp[World.frozen?,q2]
   have hcmp:Go.Proofs.CmpLays Tryz.prog 168 #[] (fun i=>Bi (X i)) 7 (cfL l) b 0 (XI l.length).size κ.w:=by
    intro m os dk hdk x y
    have:=AP (X x) (X y) (Go.Proofs.sortWorldK (fun i=>Bi (X i)) 7 κ.w b 0 m dk os)
    rw[UM,(hX x).1,(hX y).1] at this
    exact this
   have eg:∀ args w,(callFunc 168 args).run Tryz.prog w = .ok (.enter 168 args) w:=enters_of Tryz.func168 (by kernel_rfl) rfl
   have hc:=Go.Proofs.AnyQ.slices_SortFunc_eq (P:=Tryz.prog) (ρ:=Tryz.sortF_ren) Wy 7 Tryz.isAgg39 Tryz.sizeOf39 (fun i=>Bi (X i)) (fun _=>rfl) (fun i v hv=>by
    obtain⟨g1,g2,g3,g4,g5,g6⟩:=(X i).one
    simp only[Bi,List.mem_cons,List.not_mem_nil,or_false] at hv
    rcases hv with rfl | rfl | rfl | rfl | rfl | rfl | rfl<;>first | rfl | assumption) (cfL l) (TG l) 168 #[] b 0 cap (XI l.length) κ.w eg hcmp hH hblk (by rw[Array.size_range];omega)
   have hc':Calls Tryz.prog 167 #[.slice (some ⟨b,0,none⟩) l.length cap,.func (.func 168) #[] #[]] κ.w fun e w'=>e = .returned (.tuple #[])/\∃ m os,w'=Go.Proofs.sortWorldK (fun i=>Bi (X i)) 7 κ.w b 0 m (nE l) os:=by
    have e2:(XI l.length).size=l.length:=Array.size_range
    have:=hc
    rw[e2] at this
    unfold nE
    rw[e2]
    exact this
   refine hc'.mono ?_
   rintro e w' ⟨rfl,m,os,rfl⟩
   obtain⟨F,hF⟩:∃ F,F=Sort.flatK (fun i=>Bi (X i)) 7 (nE l):=⟨_,rfl⟩
   obtain⟨w1,hw1⟩:∃ w1,w1=Sort.putRow id (Sort.ahead κ.w m) b 0 F:=⟨_,rfl⟩
   have hFs:F.size=l.length*7:=by rw[hF,Sort.size_flatK,eO]
   have hheap:w1.heap=κ.w.heap.modify b (Sort.onCells (Sort.putCells id 0 F)):=by rw[hw1];rfl
   have hb1:w1.heap[b]? = some (.cells (Sort.putCells id 0 F cs) 39 (0,0)):=by
    rw[hheap,XR,if_pos rfl,q2];rfl
   have hother:∀ b',b'≠b->w1.heap[b']? = κ.w.heap[b']?:=by
    intro b' hb'
    rw[hheap,XR,if_neg (Ne.symm hb')]
   have hlent:(fun r=>lookB r (cB [Blk.cells 39 false (bQ (l.map Fld.pv))] 0)) 0≠.none:=by rw[hσ];exact fun h=>by cases h
   obtain⟨k1,k2⟩:=B8 hS (r0:=0) (b0:=b) (d0:=.blk b nn) (Bo:=.cells 39 false (bQ ((srt l).map Fld.pv))) (w':=w1) 1
    (by rw[hw1];rfl) (by rw[hw1];rfl) (by rw[hw1];rfl) (by rw[hheap,Array.size_modify]) hother q7 hlent hnm rfl
   have hcs':(Sort.putCells id 0 F cs).size=nn:=by simp[Sort.putCells,q3]
   have hget:∀ t,t<l.length*7->(Sort.putCells id 0 F cs).getD t Go.undef=F[t]!:=by
    intro t ht
    have htc:t<cs.size:=by omega
    rw[WM]
    simp[Sort.putCells,Array.getElem?_mapIdx,htc,hFs,ht]
   have hB:fM ⟨w1,κ.nm,κ.imm⟩ 0 (.cells 39 false (bQ ((srt l).map Fld.pv))):=by
    refine .inr ⟨b,nn,_,hnm,hb1,hcs',by rw[dR,jM];rw[dR] at q4;exact q4,(fun h=>by cases h),fun o x hx=>?_,q7⟩
    have ho:o<l.length*7:=by
     have:=(WH.1 hx).1
     rwa [dR,jM] at this
    have ho7:o / 7<(nE l).size:=by rw[eO];omega
    have hsr:(srt l)[o / 7]? = some (l.getD (nE l)[o / 7]! PT):=by
     unfold srt
     rw[WW,Array.getElem?_toList,Array.getElem?_eq_getElem ho7,getElem!_pos (nE l) (o / 7) ho7];rfl
    have hal:(nE l)[o / 7]! < l.length:=by
     rw[getElem!_pos (nE l) (o / 7) ho7]
     have:=(mm l).mem_iff.1 (Array.getElem_mem_toList ho7)
     simpa using this
    obtain⟨a,ha⟩:∃ a,a=(nE l)[o / 7]!:=⟨_,rfl⟩
    rw[<- ha] at hal hsr
    have hla:l[a]? = some (l.getD a PT):=by rw[WN,WE hal];rfl
    have hxa:=ln (srt l) (o / 7) (o % 7) _ hsr (Nat.mod_lt _ (by omega))
    rw[show o / 7*7+o % 7=o by omega,hx] at hxa
    have hxl:=ln l a (o % 7) _ hla (Nat.mod_lt _ (by omega))
    rw[<- hxa] at hxl
    have hrel:=q6 _ _ hxl
    rw[hget o ho,hF,Sort.get_flatK _ _ _ o (by rw[eO];exact ho),<- ha,(hX a).2 hal (o % 7) (Nat.mod_lt _ (by omega))]
    exact hrel.ext k1.ext
   have hS1:=k2 hB
   obtain⟨g1,g2,g3⟩:=SRel.grow hS1 (Go.Proofs.sortWorldK (fun i=>Bi (X i)) 7 κ.w b 0 m (nE l) os) os (by
    show _=Sort.grow w1 os
    rw[hw1,hF];rfl) k1.size
   have hL0:Go.Ab.Left (cQ κ (fun r=>lookB r (cB [Blk.cells 39 false (bQ (l.map Fld.pv))] 0)) G) κ.imm κ:=⟨rfl,rfl,rfl,WX _,fun _ _ _=>rfl,fun _ _ h=>.inl h⟩
   have hσ':(aE.set (fun r=>lookB r (cB [Blk.cells 39 false (bQ (l.map Fld.pv))] 0)) 0 (.cells 39 false (bQ ((srt l).map Fld.pv))))=fun r=>lookB r (cB [Blk.cells 39 false (bQ ((srt l).map Fld.pv))] 0):=by
    funext r
    by_cases hr:r=0
    ·subst hr;rfl
    ·simp only[aE.set,hr,if_false,cB,lookB]
     rw[if_neg (fun e=>hr e.symm),if_neg (fun e=>hr e.symm)]
   rw[hσ'] at g2
   exact⟨_,.pv (.tup []),_,_,1,rfl,rfl,(κ.cut_ext 1).trans (k1.ext.trans g1),g3 _ (k1.left _ hL0),.pv _ _ (.tup [] #[] rfl (fun i x hx=>by simp at hx)),g2,hf,rfl,rfl,rfl⟩
def OkT (R:Rd):Prop:=R.e=0->I64 R.now.num/\R.now.sc<=12/\R.now.text.length<=65536/\R.now.bytes.length<=300000/\(R.now.kind=0->R.now.text=[])
theorem pa:∀ (f:Nat) (l:List UInt8) (i:Nat) (o:List UInt8) {o':List UInt8} {j:Nat},kK f l i o = .done o' j->o'.length<=o.length+4*l.length
 | 0,l,i,o,o',j,h=>by cases h
 | f+1,[],i,o,o',j,h=>by cases h
 | f+1,c::r,i,o,o',j,h=>by
   by_cases h1:c.toNat=34
   ·rw[jL h1] at h;cases h;omega
   by_cases h2:c.toNat<32\/c.toNat=127
   ·rw[iX h1 h2] at h;cases h
   by_cases h3:c.toNat=92
   ·by_cases h4:r=[]
    ·subst h4;rw[gi h3] at h;cases h
    ·rw[fo h3 h4] at h
     split at h
     ·rename_i he
      have:=lr he
      have ih:=pa f _ _ _ h
      rw[Xh,WF] at ih
      rw[WG];omega
     ·cases h
   ·rw[dQ h1 h2 h3] at h
    have ih:=pa f _ _ _ h
    rw[WF,Xi] at ih
    rw[WG];omega
theorem pQ:∀ (l:List UInt8) (i:Nat) (q:Option Nat) (o:List UInt8) {o':List UInt8} {j:Nat},kQ l i q o = .done o' j->o'.length<=o.length+l.length
 | [],i,q,o,o',j,h=>by cases h
 | c::r,i,q,o,o',j,h=>by
   rw[kQ] at h
   split at h
   ·cases h;omega
   ·split at h
    ·cases h
    ·split at h
     ·have ih:=pQ r _ _ _ h
      rw[WG];omega
     ·have ih:=pQ r _ _ _ h
      rw[WF,Xi] at ih
      rw[WG];omega
theorem Iv (s:List UInt8):I64 (bC s).1.1/\(bC s).1.2<=12:=by
 unfold bC
 split
 ·unfold I64;simp
 split
 ·unfold I64;simp
 split
 ·rename_i h
  obtain⟨⟨h1,h2,h3⟩,_⟩:=h
  unfold I64;simp only;omega
 ·unfold I64;simp
theorem bD:I64 0:=by unfold I64;omega
theorem La {R:Rd}{i:Nat}{k:Int}{v:Bool}{z:Sc}(h0:R.now = { pos:=i })(hz:∀ o j,z = .done o j->o.length<=300000)(he:∀ j,¬ z = .bad j 0)(h:(bT R i k v z).e=0) :
  I64 (bT R i k v z).now.num/\(bT R i k v z).now.sc<=12/\(bT R i k v z).now.bytes.length<=300000:=by
 cases z with
 | short=>exact absurd h (bY (by decide))
 | bad j e=>
   by_cases hx:e=0
   ·subst hx;exact absurd rfl (he j)
   ·exact absurd h (bY hx)
 | done o j=>
   have:=hz o j rfl
   simp only[bT]
   split
   ·simp only[cY,h0];exact⟨bD,by omega,this⟩
   ·simp only[h0];exact⟨bD,by omega,this⟩
theorem Rg (R:Rd)(i:Nat)(w:Nat×Bool×Bool)(q:(Int×Nat)×Int)(h1:I64 q.1.1)(h2:q.1.2<=12):I64 (Bd R i w q).now.num/\(Bd R i w q).now.sc<=12/\(Bd R i w q).now.bytes=R.now.bytes:=by
 obtain⟨a,x,y⟩:=w
 obtain⟨⟨n,sc⟩,e⟩:=q
 by_cases he:e=0
 ·subst he;rw[fT];exact⟨h1,h2,rfl⟩
 ·rw[ik he];simp only[cY];exact⟨h1,h2,trivial⟩
theorem T8 {R:Rd}{i:Nat}{c:UInt8}(hs:R.s.length<=65536)(h0:R.now = { pos:=i })(h:(fc R i c).e=0):I64 (fc R i c).now.num/\(fc R i c).now.sc<=12/\(fc R i c).now.bytes.length<=300000:=by
 unfold fc at h ⊢
 split
 ·rename_i h1;rw[if_pos h1] at h
  exact La h0 (fun o j hz=>by have:=pa _ _ _ _ hz;rw[Xh,WL] at this;omega) (fun j=>qI _ _ _ _) h
 rename_i h1
 rw[if_neg h1] at h
 split
 ·rename_i h2;rw[if_pos h2] at h
  exact La h0 (fun o j hz=>by have:=pQ _ _ _ _ hz;rw[Xh,WL] at this;omega) (fun j=>r9 _ _ _ _) h
 rename_i h2
 rw[if_neg h2] at h
 split
 ·simp only[h0];exact⟨bD,by omega,by simp⟩
 rename_i h3
 rw[if_neg h3] at h
 split
 ·rename_i h4
  rw[if_pos h4] at h
  obtain⟨a,ha⟩:∃ a,(if R.s[i]? = some 45 then i+1 else i)=a:=⟨_,rfl⟩
  by_cases hz:bR isD R.s a=a
  ·rw[rB ha hz] at h
   exact absurd h (bY (by decide))
  ·rw[fS ha rfl hz rfl]
   have hb:=Iv (fK ((R.s.take (ub R.s (bR isD R.s a)).1).drop i))
   obtain⟨g1,g2,g3⟩:=Rg R i (ub R.s (bR isD R.s a)) (bC (fK ((R.s.take (ub R.s (bR isD R.s a)).1).drop i))) hb.1 hb.2
   rw[g3,h0]
   exact⟨g1,g2,by simp⟩
 rename_i h4
 rw[if_neg h4] at h
 split
 ·simp only[h0];exact⟨bD,by omega,by simp⟩
 rename_i h5
 rw[if_neg h5] at h
 split
 ·simp only[h0];exact⟨bD,by omega,by simp⟩
 ·rename_i h6
  rw[if_neg h6] at h
  exact absurd h (bY (by decide))
theorem Lc {R:Rd}{i:Nat}{k:Int}{v:Bool}{z:Sc}(he:∀ j,¬ z = .bad j 0)(h:(bT R i k v z).e=0):(bT R i k v z).now.kind=k:=by
 cases z with
 | short=>exact absurd h (bY (by decide))
 | bad j e=>
   by_cases hx:e=0
   ·subst hx;exact absurd rfl (he j)
   ·exact absurd h (bY hx)
 | done o j=>rfl
theorem T9 {R:Rd}{i:Nat}{c:UInt8}(h:(fc R i c).e=0):(fc R i c).now.kind≠0:=by
 unfold fc at h ⊢
 split
 ·rename_i h1;rw[if_pos h1] at h
  unfold vT at h ⊢
  rw[Lc (fun j=>qI _ _ _ _) h];decide
 rename_i h1
 rw[if_neg h1] at h
 split
 ·rename_i h2;rw[if_pos h2] at h
  unfold xm at h ⊢
  rw[Lc (fun j=>r9 _ _ _ _) h];decide
 rename_i h2
 rw[if_neg h2] at h
 split
 ·simp
 rename_i h3
 rw[if_neg h3] at h
 split
 ·rename_i h4
  rw[if_pos h4] at h
  rcases rz R i with hq | ⟨w,q,hq⟩
  ·rw[hq] at h
   exact absurd h (bY (by decide))
  ·rw[hq];unfold Bd;simp
 rename_i h4
 rw[if_neg h4] at h
 split
 ·simp
 rename_i h5
 rw[if_neg h5] at h
 split
 ·simp
 ·rename_i h6
  rw[if_neg h6] at h
  exact absurd h (bY (by decide))
theorem Dt {R:Rd}(hR:OkR R):OkT (bi R)\/bi R=R:=by
 by_cases h:R.e=0
 ·left
  obtain⟨h1,h2,h3,h4⟩:=hR h
  by_cases hi:R.s.length<=bR aW R.s R.next
  ·rw[Gf h hi]
   exact fun _=>⟨bD,by simp only;omega,by simp,by simp,fun _=>rfl⟩
  ·obtain⟨c,hc⟩:∃ c,R.s[bR aW R.s R.next]? = some c:=⟨_,WE (by omega)⟩
   rw[Ge h hc]
   generalize bR aW R.s R.next=i at *
   have ht:=T8 (R:={ R with now:={ pos:=i },next:=i }) (i:=i) (c:=c) h1 rfl
   have hs:=I7 { R with now:={ pos:=i },next:=i } i c
   have hk:=T9 (R:={ R with now:={ pos:=i },next:=i }) (i:=i) (c:=c)
   generalize fc { R with now:={ pos:=i },next:=i } i c=L at *
   simp only at hs
   intro he
   rw[KQ] at he
   obtain⟨g1,g2,g3⟩:=ht he
   rw[lM he]
   refine⟨g1,g2,?_,g3,fun h=>absurd h (hk he)⟩
   simp only[Xh,List.length_take,hs]
   omega
 ·right;exact A7 h
def cE (R R':Rd):Prop:=OkR R'/\OkT R'/\R'.s=R.s/\(R'.e=0->R.e=0/\R.now.pos<=R'.now.pos)
theorem cE.refl {R:Rd}(h:OkR R)(ht:OkT R):cE R R:=⟨h,ht,rfl,fun h=>⟨h,WX _⟩⟩
theorem cE.trans {a b c:Rd}(h:cE a b)(k:cE b c):cE a c:=
 ⟨k.1,k.2.1,k.2.2.1.trans h.2.2.1,fun hc=>⟨(h.2.2.2 (k.2.2.2 hc).1).1,Xv (h.2.2.2 (k.2.2.2 hc).1).2 (k.2.2.2 hc).2⟩⟩
theorem br {R:Rd}{i:Nat}{e:Int}(he:e≠0):cE R (ba R i e):=
 ⟨NF he,fun h=>absurd h (bY he),mX _ _ _,fun h=>absurd h (bY he)⟩
theorem bq {R:Rd}(h:OkR R)(ht:OkT R):cE R (bi R)/\((bi R).e=0->R.now.kind≠0->R.now.pos<(bi R).now.pos):=by
 have h1:=Ma h
 have ht':OkT (bi R):=by
  rcases Dt h with h2 | h2
  ·exact h2
  ·rw[h2];exact ht
 refine⟨⟨h1.1,ht',Pn R,fun he=>?_⟩,fun he hk=>?_⟩
 ·have h0:=yc he
  have:=h1.2 he
  have:=(h h0).2.1
  exact⟨h0,by omega⟩
 ·have h0:=yc he
  have:=h1.2 he
  have:=(h h0).2.2.2 hk
  omega
theorem aO {R:Rd}{t:List UInt8}(h:OkR R)(ht:OkT R):cE R (aw R t):=by
 unfold aw
 split
 ·split
  ·exact (bq h ht).1
  ·exact br (by decide)
 ·exact .refl h ht
theorem dX {R:Rd}{k:Int}(h:OkR R)(ht:OkT R):cE R (bV R k).2:=by
 by_cases h0:R.e=0
 ·by_cases hk:R.now.kind=k
  ·rw[ku h0 hk];exact (bq h ht).1
  ·rw[take_2 h0 hk];exact br (by decide)
 ·rw[take_3 h0];exact .refl h ht
theorem BP {R:Rd}{k:Int}(ht:OkT R):(bV R k).1.text.length<=65536/\(bV R k).1.bytes.length<=300000:=by
 by_cases h0:R.e=0
 ·by_cases hk:R.now.kind=k
  ·rw[ku h0 hk];exact⟨(ht h0).2.2.1,(ht h0).2.2.2.1⟩
  ·rw[take_2 h0 hk];simp
 ·rw[take_3 h0];simp
theorem qL {R:Rd}(h:OkR R)(ht:OkT R):cE R (fX R).2/\(fX R).1.length<=65536:=by
 have h1:=dX (k:=1) h ht
 have h2:=BP (R:=R) (k:=1) ht
 unfold fX
 refine⟨?_,h2.1⟩
 simp only
 split
 ·exact h1.trans (br (by decide))
 ·exact h1
theorem df {R:Rd}(ps:List UInt8->Int×Int)(hp:∀ s,I64 (ps s).1)(h:OkR R)(ht:OkT R):cE R (aR R ps).2/\I64 (aR R ps).1:=by
 have h1:=dX (k:=3) h ht
 unfold aR
 simp only
 split
 ·refine⟨?_,hp _⟩
  simp only
  split
  ·exact h1
  ·rename_i hne
   exact h1.trans (br hne)
 ·exact⟨h1,bD⟩
