/- A part of the proof for LiteralQuotesCardSaid. -/
import Derived.Test.YtamoeblcphjbaaaGreatDoorQuLP9
import Derived.Shelf.SlGeneric
import Derived.Shelf.SlSortCmp.WholeK
import Derived.Ground.SlsfProg
import Derived.Test.YtamoeblcphjbaaaGreatDoorProg
import Derived.WalkKit
import Derived.WalkMore
import Derived.Deep.Draws
import Derived.Test.YtamoeblcphjbaaaGreatDoorQuLC1
import Derived.Shelf.SlSortCmp.NoneTotal
import Derived.Test.YtamoeblcphjbaaaGreatDoorQuLSh2
import Derived.Test.YtamoeblcphjbaaaGreatDoorQuLD2
set_option maxRecDepth 100000
set_option linter.unusedVariables false
set_option linter.unusedSimpArgs false
-- many steps
namespace Go.Proofs.YtamoeblcphjbaaaGreatDoor
open Go Go.Ab
attribute [local irreducible] vc
set_option maxHeartbeats 4000000 in
theorem Bg:∀ (n:Nat) (v:Val),SizeOf.sizeOf v<n→v.ok→aw Tryz.prog aF 212 [v.pv] v.pv:=by
 intro n
 induction n with
 | zero=>intro v h;omega
 | succ n ih=>
 intro v hn hv
 obtain⟨k,i,s,t,l,f⟩:=v
 rw[Val.ok_mk] at hv
 obtain⟨h1,h2,h3,h4,h5,h7,h6,h8⟩:=hv
 simp only[Val.mk.sizeOf_spec] at hn
 have hl:∀ x∈l,aw Tryz.prog aF 212 [x.pv] x.pv:=fun x hx=>ih x (by have:=List.sizeOf_lt_of_mem hx;omega) (h7 x hx)
 have hf:∀ a v,Fld.mk a v∈f→aw Tryz.prog aF 212 [v.pv] v.pv:=fun a v hx=>ih v (by have:=List.sizeOf_lt_of_mem hx;simp only[Fld.mk.sizeOf_spec] at this;omega) (by have:=h8 _ hx;rw[Fld.ok_mk] at this;exact this.2)
 refine aw.intro J8 (by simp[P6]) ?_
 simp(maxSteps:=9^7) (disch:=first|exact dI|fail) only[P6,Val.pv_mk,push_cast,seval]
 refine bg ([(3,5,25,6)]) (fun m:Nat=>[(14,.pv (.int .i64 (m:Int)))]) (fun m=>[(1,.cells 25 true [.pv (.int .i64 k),.pv (.int .i64 i),.pv (.int .i64 s),.pv (.str t),.olist 2 6 ((l.take m).map Val.pv),.pv .nils])]) (fun m=>m≤l.length) (fun m=>l.length - m) (0) ?_;intro e0 σ0 n0 h0;simp(maxSteps:=9^7) (disch:=first|exact dI|fail) only[push_cast,seval] at h0;obtain⟨rfl,rfl,rfl⟩:=h0;refine⟨?_,?_,?_⟩
 ·simp(maxSteps:=9^7) (disch:=first|exact dI|fail) only[push_cast,seval]
 ·omega
 ·intro m hm
  by_cases hlt:m<l.length
  ·have hltI:(m:Int)<l.length:=by omega
   obtain⟨x,hx⟩:∃ x,l[m]? = some x:=⟨_,List.getElem?_eq_getElem hlt⟩
   have hts:=bt hx
   have hlt2:(l.take m).length=m:=by rw[List.length_take];omega
   have hcall:=hl x (List.mem_of_getElem? hx)
   obtain⟨w1,w2,w3,w4,w5,w6⟩:=x
   rw[Val.pv_mk] at hcall
   simp(maxSteps:=9^7) (disch:=first|exact dI|fail) only[hx,Val.pv_mk,push_cast,seval]
   refine ae hcall rfl ?_
   simp(maxSteps:=9^7) (disch:=first|exact dI|fail) only[hlt2,push_cast,seval]
   exact⟨m+1,bM (by simp(maxSteps:=9^7) (disch:=first|exact dI|fail) only[hts,List.map_append,Val.pv_mk,push_cast,seval]),by omega,by omega⟩
  ·have hltI:¬ (m:Int)<l.length:=by omega
   have hle:l.take m=l:=List.take_of_length_le (by omega)
   simp(maxSteps:=9^7) (disch:=first|exact dI|fail) only[hle,push_cast,seval]
   refine bg ([(3,6,39,7)]) (fun m:Nat=>[(29,.pv (.int .i64 (m:Int)))]) (fun m=>[(1,.cells 25 true [.pv (.int .i64 k),.pv (.int .i64 i),.pv (.int .i64 s),.pv (.str t),.olist 2 6 (l.map Val.pv),.olist 3 7 ((f.take m).map Fld.pv)])]) (fun m=>m≤f.length) (fun m=>f.length - m) (0) ?_;intro e0 σ0 n0 h0;simp(maxSteps:=9^7) (disch:=first|exact dI|fail) only[push_cast,seval] at h0;obtain⟨rfl,rfl,rfl⟩:=h0;refine⟨?_,?_,?_⟩
   ·simp(maxSteps:=9^7) (disch:=first|exact dI|fail) only[push_cast,seval]
   ·omega
   ·intro m hm
    by_cases hlt:m<f.length
    ·have hltI:(m:Int)<f.length:=by omega
     obtain⟨⟨a,v⟩,hx⟩:∃ x,f[m]? = some x:=⟨_,List.getElem?_eq_getElem hlt⟩
     have hts:=bt hx
     have hlt2:(f.take m).length=m:=by rw[List.length_take];omega
     have hcall:=hf a v (List.mem_of_getElem? hx)
     obtain⟨w1,w2,w3,w4,w5,w6⟩:=v
     rw[Val.pv_mk] at hcall
     simp(maxSteps:=9^7) (disch:=first|exact dI|fail) only[hx,Fld.pv_mk,Val.pv_mk,push_cast,seval]
     refine ae hcall rfl ?_
     simp(maxSteps:=9^7) (disch:=first|exact dI|fail) only[hlt2,push_cast,seval]
     exact⟨m+1,bM (by simp(maxSteps:=9^7) (disch:=first|exact dI|fail) only[hts,List.map_append,Fld.pv_mk,Val.pv_mk,push_cast,seval]),by omega,by omega⟩
    ·have hltI:¬ (m:Int)<f.length:=by omega
     have hle:f.take m=f:=List.take_of_length_le (by omega)
     simp(maxSteps:=9^7) (disch:=first|exact dI|fail) only[hle,push_cast,seval]
theorem PF (n sc:Int):aw Tryz.prog aF 94 [.int .i64 n,.int .i64 sc] (Val.mk 3 n sc [] [] []).pv:=by
 refine aw.intro ND (by simp[F94]) ?_
 simp(maxSteps:=9^7) (disch:=first|exact dI|fail) only[F94,Val.pv_mk,push_cast,seval]
theorem Pj (n:Int):aw Tryz.prog aF 95 [.int .i64 n] (Val.mk 2 n 0 [] [] []).pv:=by
 refine aw.intro NC (by simp[F95]) ?_
 simp(maxSteps:=9^7) (disch:=first|exact dI|fail) only[F95,Val.pv_mk,push_cast,seval]
theorem Lk (t:List UInt8):aw Tryz.prog aF 96 [.str t] (Val.mk 4 0 0 t [] []).pv:=by
 refine aw.intro NB (by simp[F96]) ?_
 simp(maxSteps:=9^7) (disch:=first|exact dI|fail) only[F96,Val.pv_mk,push_cast,seval]
theorem PO (t:List UInt8):aw Tryz.prog aF 97 [.str t] (Val.mk 5 0 0 t [] []).pv:=by
 refine aw.intro NA (by simp[F97]) ?_
 simp(maxSteps:=9^7) (disch:=first|exact dI|fail) only[F97,Val.pv_mk,push_cast,seval]
theorem BG (b:Bool):aw Tryz.prog aF 170 [.bool b] (Val.mk 1 (if b=true then 1 else 0) 0 [] [] []).pv:=by
 refine aw.intro Kp (by simp[OF]) ?_
 cases b with
 | true=>
   rw[if_pos rfl]
   simp(maxSteps:=9^7) (disch:=first|exact dI|fail) only[OF,Val.pv_mk,push_cast,seval]
 | false=>
   rw[if_neg (by decide)]
   simp(maxSteps:=9^7) (disch:=first|exact dI|fail) only[OF,Val.pv_mk,push_cast,seval]
theorem JC (n:Int):aw Tryz.prog aF 171 [.int .i64 n] (Val.mk 6 n 0 [] [] []).pv:=by
 refine aw.intro Ko (by simp[Qg]) ?_
 simp(maxSteps:=9^7) (disch:=first|exact dI|fail) only[Qg,Val.pv_mk,push_cast,seval]
theorem Hj (n:Int):aw Tryz.prog aF 172 [.int .i64 n] (Val.mk 7 n 0 [] [] []).pv:=by
 refine aw.intro Kn (by simp[Qf]) ?_
 simp(maxSteps:=9^7) (disch:=first|exact dI|fail) only[Qf,Val.pv_mk,push_cast,seval]
theorem sO (t:List UInt8)(v:Val)(ht:t.length≤140737488351232)(hv:v.ok):aw Tryz.prog aF 169 [.str t,v.pv] (Val.mk 10 0 0 t [v] []).pv:=by
 have hc:=Bg _ (Val.mk 10 0 0 t [v] []) (Nat.lt_succ_self _) (by
  rw[Val.ok_mk]
  refine⟨by unfold I64;omega,by unfold I64;omega,by unfold I64;omega,ht,by simp,fun x hx=>by simp at hx;rw[hx];exact hv,by simp,fun x hx=>by simp at hx⟩)
 obtain⟨k,n,s,tt,l,fs⟩:=v
 simp only[Val.pv_mk,List.map_cons,List.map_nil] at hc ⊢
 refine aw.intro Kq (by simp[Qh]) ?_
 simp(maxSteps:=9^7) (disch:=first|exact dI|fail) only[Qh,push_cast,seval]
 refine ab.pureN hc rfl (by repeat' constructor) ?_
 simp(maxSteps:=9^7) (disch:=first|exact dI|fail) only[push_cast,seval]
end Go.Proofs.YtamoeblcphjbaaaGreatDoor
/-
 DERIVED: THE SHELF's CONTRACTS AT THIS DUMP,IN PLAIN WORDS (tools/lay-plain.mjs out of 'TryzC9.lean',which tools/lay-shelf.mjs wrote): THE SAME DECLARATIONS UNDER THE SAME NAMES: 'import','namespace','open','def','theorem' AND NOTHING ELSE: no command of the shelf's: FOR A HAND-IN. Each laying: the table of numbers ('.._ren') and one theorem,a field a fact of the dump's own or the kernel's comparison;each iu: ONE APPLICATION.
-/
namespace Go.Proofs
open Go.Shelf
def Tryz.sortF_ren:Go.Shelf.Ren:=⟨fun | 6=>167 | 15=>211 | 14=>210 | 28=>245 | 29=>215 | 20=>237 | 21=>238 | 22=>239 | 23=>240 | 24=>241 | 25=>242 | 26=>243 | 27=>244 | 46=>262 | 47=>263 | 48=>264 | 49=>265 | 50=>266 | 57=>276 | n=>n,fun | 22=>23 | 24=>39 | 25=>130 | 3=>3 | 39=>163 | 0=>0 | 53=>206 | 55=>181 | 4=>4 | 46=>233 | 45=>232 | 50=>237 | 5=>5 | 9=>9 | 66=>251 | 70=>104 | 76=>266 | 77=>186 | n=>n,fun | n=>n⟩
theorem Tryz.sortF:Go.Proofs.SlLaysF0.n6 Tryz.prog Tryz.sortF_ren:={
 mixed:=by kernel_rfl
 f6:=⟨Tryz.f167.name,by decide,Tryz.func167.trans (congrArg some (by kernel_rfl))⟩
 f14:=⟨Tryz.f210.name,by decide,Tryz.func210.trans (congrArg some (by kernel_rfl))⟩
 f15:=Tryz.func211.trans (congrArg some (by kernel_rfl))
 f20:=⟨Tryz.f237.name,by decide,Tryz.func237.trans (congrArg some (by kernel_rfl))⟩
 f21:=⟨Tryz.f238.name,by decide,Tryz.func238.trans (congrArg some (by kernel_rfl))⟩
 f22:=⟨Tryz.f239.name,by decide,Tryz.func239.trans (congrArg some (by kernel_rfl))⟩
 f23:=⟨Tryz.f240.name,by decide,Tryz.func240.trans (congrArg some (by kernel_rfl))⟩
 f24:=⟨Tryz.f241.name,by decide,Tryz.func241.trans (congrArg some (by kernel_rfl))⟩
 f25:=⟨Tryz.f242.name,by decide,Tryz.func242.trans (congrArg some (by kernel_rfl))⟩
 f26:=⟨Tryz.f243.name,by decide,Tryz.func243.trans (congrArg some (by kernel_rfl))⟩
 f27:=⟨Tryz.f244.name,by decide,Tryz.func244.trans (congrArg some (by kernel_rfl))⟩
 f28:=Tryz.func245.trans (congrArg some (by kernel_rfl))
 f29:=Tryz.func215.trans (congrArg some (by kernel_rfl))
 f46:=⟨Tryz.f262.name,by decide,Tryz.func262.trans (congrArg some (by kernel_rfl))⟩
 f47:=Tryz.func263.trans (congrArg some (by kernel_rfl))
 f48:=Tryz.func264.trans (congrArg some (by kernel_rfl))
 f49:=⟨Tryz.f265.name,by decide,Tryz.func265.trans (congrArg some (by kernel_rfl))⟩
 f50:=⟨Tryz.f266.name,by decide,Tryz.func266.trans (congrArg some (by kernel_rfl))⟩
 f57:=⟨Tryz.f276.name,by decide,Tryz.func276.trans (congrArg some (by kernel_rfl))⟩
 t0:=Tryz.underlying0
 a0:=Tryz.isAgg0
 z0:=Tryz.sizeOf0
 v0:=Tryz.zeroValue0
 t3:=Tryz.underlying3
 a3:=Tryz.isAgg3
 z3:=Tryz.sizeOf3
 v3:=Tryz.zeroValue3
 t4:=Tryz.underlying4
 a4:=Tryz.isAgg4
 z4:=Tryz.sizeOf4
 v4:=Tryz.zeroValue4
 t5:=Tryz.underlying5
 a5:=Tryz.isAgg5
 z5:=Tryz.sizeOf5
 v5:=Tryz.zeroValue5
 t9:=Tryz.underlying9
 a9:=Tryz.isAgg9
 z9:=Tryz.sizeOf9
 v9:=Tryz.zeroValue9
 t22:=Tryz.underlying23
 a22:=Tryz.isAgg23
 z22:=Tryz.sizeOf23
 v22:=Tryz.zeroValue23
 t25:=Tryz.underlying130
 a25:=Tryz.isAgg130
 z25:=Tryz.sizeOf130
 v25:=Tryz.zeroValue130
 t39:=Tryz.underlying163
 a39:=Tryz.isAgg163
 z39:=Tryz.sizeOf163
 v39:=Tryz.zeroValue163
 t45:=Tryz.underlying232
 a45:=Tryz.isAgg232
 z45:=Tryz.sizeOf232
 v45:=Tryz.zeroValue232
 t46:=Tryz.underlying233
 a46:=Tryz.isAgg233
 z46:=Tryz.sizeOf233
 v46:=Tryz.zeroValue233
 t50:=Tryz.underlying237
 a50:=Tryz.isAgg237
 z50:=Tryz.sizeOf237
 v50:=Tryz.zeroValue237
 t53:=Tryz.underlying206
 a53:=Tryz.isAgg206
 z53:=Tryz.sizeOf206
 v53:=Tryz.zeroValue206
 t55:=Tryz.underlying181
 a55:=Tryz.isAgg181
 z55:=Tryz.sizeOf181
 v55:=Tryz.zeroValue181
 t66:=Tryz.underlying251
 a66:=Tryz.isAgg251
 z66:=Tryz.sizeOf251
 v66:=Tryz.zeroValue251
 t70:=Tryz.underlying104
 a70:=Tryz.isAgg104
 z70:=Tryz.sizeOf104
 v70:=Tryz.zeroValue104
 t76:=Tryz.underlying266
 a76:=Tryz.isAgg266
 z76:=Tryz.sizeOf266
 v76:=Tryz.zeroValue266
 t77:=Tryz.underlying186
 a77:=Tryz.isAgg186
 z77:=Tryz.sizeOf186
 v77:=Tryz.zeroValue186 }
end Go.Proofs
set_option maxRecDepth 100000
set_option linter.unusedVariables false
namespace Go.Proofs.YtamoeblcphjbaaaGreatDoor
open Go Go.Proofs Go.Shelf Go.RowKit Go.Lib Go.Sort
structure FldC where
 name:ByteArray
 c1:Value
 c2:Value
 c3:Value
 c4:Value
 c5:Value
 c6:Value
 one:c1.oneCell'=true∧c2.oneCell'=true∧c3.oneCell'=true∧c4.oneCell'=true∧c5.oneCell'=true∧c6.oneCell'=true
instance:Inhabited FldC:=⟨⟨.empty,.int .i64 0,.int .i64 0,.int .i64 0,.int .i64 0,.int .i64 0,.int .i64 0,by decide⟩⟩
def wg (x:FldC):List Value:=[.string x.name,x.c1,x.c2,x.c3,x.c4,x.c5,x.c6]
def PI (x y:FldC):Int:=Lib.compareBytes x.name.data.toList y.name.data.toList
set_option maxHeartbeats 2000000 in
theorem vt (x y:FldC)(W:World):Calls Tryz.prog 168 #[.agg (wg x).toArray,.agg (wg y).toArray] W fun e w'=>e = .returned (.int .i64 (PI x y))∧∃ q os',w'=grow (W.drewN q) os':=by
 obtain⟨s,a1,a2,a3,a4,a5,a6,ha⟩:=x
 obtain⟨t,b1,b2,b3,b4,b5,b6,hb⟩:=y
 have hcon:=fun W'=>Tryz.strings_Compare s t W'
 simp only[wg,PI]
 generalize Lib.compareBytes s.data.toList t.data.toList=r at hcon ⊢
 go_enter Tryz.func168,Tryz.ntmps168
 go_wp2_with (go_at_call 103;refine (hcon _).mono ?_;rintro e w' ⟨rfl,rfl⟩)
 go_ret
 exact⟨rfl,0,_,by rw[alloc_eq_grow,alloc_eq_grow,grow_grow];rfl⟩
end Go.Proofs.YtamoeblcphjbaaaGreatDoor
set_option maxRecDepth 100000
set_option linter.unusedVariables false
set_option linter.unusedSimpArgs false
namespace Go.Proofs.YtamoeblcphjbaaaGreatDoor
open Go Go.Ab Go.RowKit
def K3:Fld:=.mk [] (.mk 0 0 0 [] [] [])
def nmL (l:List Fld)(i:Nat):List UInt8:=(l.getD i K3).name
def cfL (l:List Fld)(i j:Nat):Int:=Lib.compareBytes (nmL l i) (nmL l j)
def po (l:List Fld):Array Nat:=Sort.pdq (Go.Proofs.ltOf (cfL l)) (Array.range l.length) 0 (Array.range l.length).size (Lib.bitLen (Array.range l.length).size) true true
def srt (l:List Fld):List Fld:=(po l).toList.map fun i=>l.getD i K3
theorem sl:∀ (a b c:List UInt8),Lib.compareBytes a b<0→Lib.compareBytes b c<0→Lib.compareBytes a c<0
 | [],b,[],h1,h2=>by
   cases b with
   | nil=>exact h2
   | cons x q=>simp[Lib.compareBytes] at h2
 | [],b,z::r,h1,h2=>by simp[Lib.compareBytes]
 | x::p,[],c,h1,h2=>by simp[Lib.compareBytes] at h1
 | x::p,y::q,[],h1,h2=>by simp[Lib.compareBytes] at h2
 | x::p,y::q,z::r,h1,h2=>by
   have ih:=sl p q r
   simp only[Lib.compareBytes,UInt8.lt_iff_toNat_lt] at *
   repeat' split at h1
   all_goals repeat' split at h2
   all_goals repeat' split
   all_goals first | omega | exact ih h1 h2 | (exfalso;omega)
theorem n8:∀ (a b c:List UInt8),¬ Lib.compareBytes a b<0→¬ Lib.compareBytes b c<0→¬ Lib.compareBytes a c<0
 | [],[],c,h1,h2=>h2
 | [],y::q,c,h1,h2=>by simp[Lib.compareBytes] at h1
 | x::p,b,[],h1,h2=>by simp[Lib.compareBytes]
 | x::p,[],z::r,h1,h2=>by simp[Lib.compareBytes] at h2
 | x::p,y::q,z::r,h1,h2=>by
   have ih:=n8 p q r
   simp only[Lib.compareBytes,UInt8.lt_iff_toNat_lt] at *
   repeat' split at h1
   all_goals repeat' split at h2
   all_goals repeat' split
   all_goals first | omega | exact ih h1 h2 | (exfalso;omega)
theorem Bv:∀ a:List UInt8,Lib.compareBytes a a=0
 | []=>rfl
 | x::p=>by
   have:=Bv p
   simp only[Lib.compareBytes,UInt8.lt_iff_toNat_lt]
   rw[if_neg (by omega),if_neg (by omega)];exact this
theorem Qx (l:List Fld):Sort.SWO (Go.Proofs.ltOf (cfL l)) where
 irrefl x:=decide_eq_false (by rw[cfL,Bv];decide)
 trans x y z h1 h2:=decide_eq_true (sl _ _ _ (of_decide_eq_true h1) (of_decide_eq_true h2))
 ntrans x y z h1 h2:=decide_eq_false (n8 _ _ _ (of_decide_eq_false h1) (of_decide_eq_false h2))
theorem iU (l:List Fld):(po l).toList.Perm (List.range l.length):=by
 have h:=(Sort.pdq_sorts (Go.Proofs.ltOf (cfL l)) (Qx l) (Array.range l.length) 0 (Array.range l.length).size (Lib.bitLen (Array.range l.length).size) true true (Nat.zero_le _) (Nat.le_refl _) (Or.inl rfl)).1
 obtain⟨h1,_,h3⟩:=h
 have e1:(po l).size=(Array.range l.length).size:=h1
 have h4:((po l).extract 0 (Array.range l.length).size).toList.Perm ((Array.range l.length).extract 0 (Array.range l.length).size).toList:=h3
 simp only[Array.size_range] at e1
 simp only[Array.size_range,Array.toList_extract,List.extract_eq_take_drop,List.drop_zero,Nat.sub_zero,Array.toList_range] at h4
 rw[List.take_of_length_le (by simp[e1]),List.take_of_length_le (by simp)] at h4
 exact h4
theorem fC (l:List Fld):(po l).size=l.length:=by
 have:=(iU l).length_eq
 simpa using this
theorem iH (l:List Fld):(srt l).length=l.length:=by
 unfold srt;rw[List.length_map,Array.length_toList,fC]
theorem jN:∀ (l:List Fld),(List.range l.length).map (fun i=>l.getD i K3)=l:=by
 intro l
 apply List.ext_getElem
 ·simp
 ·intro i h1 h2
  simp[List.getD_eq_getElem?_getD,List.getElem?_eq_getElem h2]
theorem Dc (l:List Fld):(srt l).Perm l:=by
 have:=(iU l).map fun i=>l.getD i K3
 rwa [jN] at this
end Go.Proofs.YtamoeblcphjbaaaGreatDoor
