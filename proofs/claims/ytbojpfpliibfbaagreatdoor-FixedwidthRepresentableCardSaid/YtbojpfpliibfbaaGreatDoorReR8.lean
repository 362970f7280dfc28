/- A part of the proof for FixedwidthRepresentableCardSaid. -/
import Derived.Test.YtbojpfpliibfbaaGreatDoorReR18
import Derived.Test.YtbojpfpliibfbaaGreatDoorReR5
import Derived.Test.YtbojpfpliibfbaaGreatDoorReF
import Derived.Test.YtbojpfpliibfbaaGreatDoorReRD2
import Derived.Test.YtbojpfpliibfbaaGreatDoorReRSh
import Derived.Test.YtbojpfpliibfbaaGreatDoorReCore6
import Derived.Stop.LaidErr
import Derived.WalkKit
import Derived.Lib.LaidTab
import Derived.SevenTiedAt
import Derived.Test.YtbojpfpliibfbaaGreatDoorCards
import Derived.Test.YtbojpfpliibfbaaGreatDoorTie
set_option maxRecDepth 100000
set_option linter.unusedVariables false
set_option linter.unusedSimpArgs false
-- many steps
namespace Go.Proofs.YtbojpfpliibfbaaGreatDoor
open Go Go.Ab
attribute [local irreducible] vc
theorem wF (a:Int):dz Tryz.prog aD 1 54 [.ptr 0 0,.pv (.int .i64 a),.pv (.int .i64 0)] [.cells 94 true [.pv (.int .i64 0),.pv (.int .i64 0)]] (.pv (.tup [])) [.cells 94 true [.pv (.int .i64 0),.pv (.int .i64 0)]]:=by
 refine dz.intro Ko (by simp[F54]) ?_
 simp(maxSteps:=9^7) (disch:=try exact dI) only[F54,push_cast,seval]
 exact bd [] qsZ
theorem rF1 (sz:Nat)(l:List PV):iw sz l 1=iz sz l 1 l[1]?:=_root_.id rfl
theorem rF2 (sz:Nat)(l:List PV):iw sz l 2=iz sz l 2 l[2]?:=_root_.id rfl
theorem kG (cs:List PV):eh [PV.agg cs]=cs.map AV.pv:=by simp[eh,PV.cells]
def fc0:List PV:=[.str [105,100],.int .i64 2,.int .i64 7,.int .i64 0,.str [],.nils,.nils]
def fc1:List PV:=[.str [110,97,109,101],.int .i64 4,.int .i64 0,.int .i64 0,.str [97,98],.nils,.nils]
def fc2:List PV:=[.str [100,97,121],.int .i64 6,.int .i64 20773,.int .i64 0,.str [],.nils,.nils]
def HH (i:Nat):List AV:=((if i=0 then [] else if i=1 then fc0 else if i=2 then fc0++fc1 else fc0++(fc1++fc2)):List PV).map .pv
theorem CW:HH 0=[]:=rfl
theorem CV:HH 1=fc0.map .pv:=rfl
theorem CU:HH 2=(fc0++fc1).map .pv:=rfl
theorem Iq:HH 3=(fc0++(fc1++fc2)).map .pv:=rfl
theorem NE:Lk 7 3 5 (.cells 60 false (HH 3))=some (.list [.agg fc0,.agg fc1,.agg fc2],[5]):=by kernel_rfl
set_option maxHeartbeats 4000000 in
theorem B9:ag Tryz.prog aD 17 [Ll,HX,Fp] (.tup [Jc,.int .i64 0,.int .i64 0]):=by
 have h20:=Ix
 have h35:=DS [3,5,10] (by decide)
 rw[show Ln [3,5,10]=false by decide,if_neg (by decide),if_neg (by decide),show tG [3,5,10]=18 from rfl,show PV.list (db [3,5,10])=HX from rfl] at h35
 have h36:=I8 [32,32,55,97,98,32,32,32,50,48,50,54,45,49,49,45,49,54] 18
 rw[show FC ([32,32,55,97,98,32,32,32,50,48,50,54,45,49,49,45,49,54]:List UInt8).length 18=0 from rfl] at h36
 have h37:=FY [32,32,55,97,98,32,32,32,50,48,50,54,45,49,49,45,49,54] (jq [3,5,10])
 have hseq:=xu [32,32,55,97,98,32,32,32,50,48,50,54,45,49,49,45,49,54] [3,5,10] (by decide) (by decide) (by decide)
 have ha:ag Tryz.prog aD 53 [.str [32,32,55],.agg [.int .i64 1,.str [105,100],.int .i64 1,.int .i64 2,.int .i64 0,.int .i64 999,.int .i64 0,.nils,.nils,.nils,.nils]] (.tup [.agg [.int .i64 2,.int .i64 7,.int .i64 0,.str [],.nils,.nils],.int .i64 0]):=JA
 have hb:ag Tryz.prog aD 53 [.str [97,98,32,32,32],.agg [.int .i64 2,.str [110,97,109,101],.int .i64 2,.int .i64 4,.int .i64 1,.int .i64 5,.int .i64 0,.nils,.nils,.nils,.nils]] (.tup [.agg [.int .i64 4,.int .i64 0,.int .i64 0,.str [97,98],.nils,.nils],.int .i64 0]):=Jz
 have hc:ag Tryz.prog aD 53 [.str [50,48,50,54,45,49,49,45,49,54],.agg [.int .i64 3,.str [100,97,121],.int .i64 1,.int .i64 6,.int .i64 0,.int .i64 30000,.int .i64 0,.nils,.nils,.nils,.nils]] (.tup [.agg [.int .i64 6,.int .i64 20773,.int .i64 0,.str [],.nils,.nils],.int .i64 0]):=Jy
 have hr:ag Tryz.prog aD 55 [.list [.agg fc0,.agg fc1,.agg fc2]] Jc:=zH
 have hi0:(fF [32,32,55,97,98,32,32,32,50,48,50,54,45,49,49,45,49,54] [3,5,10])[0]? = some [.int .i64 0,.str [32,32,55]]:=by kernel_rfl
 have hi1:(fF [32,32,55,97,98,32,32,32,50,48,50,54,45,49,49,45,49,54] [3,5,10])[1]? = some [.int .i64 3,.str [97,98,32,32,32]]:=by kernel_rfl
 have hi2:(fF [32,32,55,97,98,32,32,32,50,48,50,54,45,49,49,45,49,54] [3,5,10])[2]? = some [.int .i64 8,.str [50,48,50,54,45,49,49,45,49,54]]:=by kernel_rfl
 have hlx:(fF [32,32,55,97,98,32,32,32,50,48,50,54,45,49,49,45,49,54] [3,5,10]).length=3:=rfl
 generalize hX:fF [32,32,55,97,98,32,32,32,50,48,50,54,45,49,49,45,49,54] [3,5,10]=X at *
 have hw:HX = .list (jq [3,5,10]):=rfl
 simp only[Fp]
 refine ag.intro K1 (by simp[F17]) ?_
 simp(maxSteps:=9^7) (disch:=try exact dI) only[F17,Ll,Jd,push_cast,seval]
 refine ab.pure h20 rfl ?_
 simp(maxSteps:=9^7) (disch:=try exact dI) only[push_cast,seval]
 refine ab.pure h35 rfl ?_
 simp(maxSteps:=9^7) (disch:=try exact dI) only[push_cast,seval]
 refine ab.pure h36 rfl ?_
 simp(maxSteps:=9^7) (disch:=try exact dI) only[push_cast,seval]
 refine ab.pure h37 rfl ?_
 simp(maxSteps:=9^7) (disch:=try exact dI) only[push_cast,seval]
 refine sZ ([(14,1,1000060,7)]) (fun i:Nat=>[]) (fun i:Nat=>[(2,.cells 34 true [.row 5 7 0 i]),(3,.cells 3 true [.pv (.int .i64 (i:Int))]),(5,.cells 60 false (HH i))]) (fun j i=>j=i∧i≤3) (0) (hseq) ?_;intro e0 σ0 n0 h0;simp(maxSteps:=9^7) (disch:=try exact dI) only[push_cast,seval] at h0;obtain⟨rfl,rfl,rfl⟩:=h0;refine⟨?_,?_,?_,?_,?_⟩
 ·simp(maxSteps:=9^7) (disch:=try exact dI) only[CW,push_cast,seval]
 ·exact⟨rfl,by omega⟩
 ·rfl
 ·rintro j i y hy ⟨hij,hi⟩
  subst hij
  have hj3:j<3:=by have:=(List.getElem?_eq_some_iff.1 hy).1;omega
  have hjc:j=0∨j=1∨j=2:=by omega
  clear hr h20 h35 h36 h37 hseq
  rcases hjc with rfl | rfl | rfl
  ·rw[hi0] at hy
   obtain rfl:=Option.some.inj hy
   refine⟨rfl,?_⟩
   simp(maxSteps:=9^7) (disch:=try exact dI) only[CW,aK,push_cast,seval]
   refine ab.pure ha rfl ?_
   simp(maxSteps:=9^7) (disch:=try exact dI) only[push_cast,seval]
   refine ab.lentK (wF 0) [4] rfl qsZ qsZ ?_
   simp(maxSteps:=9^7) (disch:=try exact dI) only[aK,kG,List.map_cons,List.map_nil,List.cons_append,List.nil_append,List.drop_succ_cons,List.drop_zero,push_cast,seval]
   exact⟨1,aT (by simp(maxSteps:=9^7) (disch:=try exact dI) only[CV,fc0,push_cast,seval]),rfl,by omega⟩
  ·rw[hi1] at hy
   obtain rfl:=Option.some.inj hy
   refine⟨rfl,?_⟩
   simp(maxSteps:=9^7) (disch:=try exact dI) only[CV,fc0,rF1,push_cast,seval]
   refine ab.pure hb rfl ?_
   simp(maxSteps:=9^7) (disch:=try exact dI) only[push_cast,seval]
   refine ab.lentK (wF 3) [4] rfl qsZ qsZ ?_
   simp(maxSteps:=9^7) (disch:=try exact dI) only[rF1,kG,List.map_cons,List.map_nil,List.cons_append,List.nil_append,List.drop_succ_cons,List.drop_zero,push_cast,seval]
   exact⟨2,aT (by simp(maxSteps:=9^7) (disch:=try exact dI) only[CU,fc0,fc1,push_cast,seval]),rfl,by omega⟩
  ·rw[hi2] at hy
   obtain rfl:=Option.some.inj hy
   refine⟨rfl,?_⟩
   simp(maxSteps:=9^7) (disch:=try exact dI) only[CU,fc0,fc1,rF2,push_cast,seval]
   refine ab.pure hc rfl ?_
   simp(maxSteps:=9^7) (disch:=try exact dI) only[push_cast,seval]
   refine ab.lentK (wF 8) [4] rfl qsZ qsZ ?_
   simp(maxSteps:=9^7) (disch:=try exact dI) only[rF2,kG,List.map_cons,List.map_nil,List.cons_append,List.nil_append,List.drop_succ_cons,List.drop_zero,push_cast,seval]
   exact⟨3,aT (by simp(maxSteps:=9^7) (disch:=try exact dI) only[Iq,fc0,fc1,fc2,push_cast,seval]),rfl,by omega⟩
 ·rintro j ⟨hj,hi⟩
  rw[hlx] at hj
  subst hj
  simp(maxSteps:=9^7) (disch:=try exact dI) only[NE,push_cast,seval]
  refine ab.pure hr rfl ?_
  simp(maxSteps:=9^7) (disch:=try exact dI) only[Jc,push_cast,seval]
end Go.Proofs.YtbojpfpliibfbaaGreatDoor
namespace Go.Proofs.YtbojpfpliibfbaaGreatDoor
open Go Go.Ab
def L1 (f:Nat)(ps:List PV):Option PV:=
 match f with
 | 17=>match ps with
   | [a,b,c]=>if eqP 8 a Ll=true∧eqP 8 b HX=true∧eqP 8 c Fp=true then some (.tup [Jc,.int .i64 0,.int .i64 0]) else none
   | _=>none
 | f=>L2 f ps
theorem EX:∀ f ps r,L1 f ps=some r→ag Tryz.prog aD f ps r:=by
 intro f ps r h
 unfold L1 at h
 split at h
 ·split at h
  ·split at h
   ·rename_i hh
    cases h
    rw[mj _ _ _ hh.1,mj _ _ _ hh.2.1,mj _ _ _ hh.2.2]
    exact B9
   ·cases h
  ·cases h
 ·exact fQ _ _ _ h
theorem NG:uN (exF (CT.map gFn) L1 aD 5000 60) 11 []=some (.bool true):=by kernel_rfl
theorem Fs:ag Tryz.prog aD 11 [] (.bool true):=ag.of_ex (jz jA) EX NG
end Go.Proofs.YtbojpfpliibfbaaGreatDoor
-- many steps
namespace Go.Proofs.YtbojpfpliibfbaaGreatDoor
open Go Go.Ab
attribute [local irreducible] vc
theorem rE (w:List Int)(n:Nat):(db w).take n=db (w.take n):=by simp[db]
theorem Mr (w:List Int):ag Tryz.prog aD 10 [.list (db w)] (.list (db (w.take 70))):=by
 refine ag.intro La (by simp[F10]) ?_
 rw[← rE]
 by_cases h:w.length≤70
 ·have hm:min (w.length:Int) 70=(w.length:Int):=by omega
  have e:(db w).take 70=(db w).take w.length:=by rw[List.take_of_length_le (by rw[aV];omega),List.take_of_length_le (by rw[aV];omega)]
  rw[e]
  simp(maxSteps:=9^7) (disch:=try exact dI) only[F10,hm,aV,push_cast,seval]
 ·have hm:min (w.length:Int) 70=70:=by omega
  have hl:(70:Int)≤(w.length:Int):=by omega
  simp(maxSteps:=9^7) (disch:=try exact dI) only[F10,hm,aV,push_cast,seval]
theorem NA (t:Typ)(ht:t.ok)(w:List Int):ag Tryz.prog aD 3 [t.pv,.list (db w)] (.bool true):=by
 have hk:=Fs
 have hc:=Mr w
 have h12:=Iy t ht (w.take 70)
 have h13:=J6 t ht (w.take 70)
 generalize Iz t (w.take 70)=z at *
 generalize db (w.take 70)=L at *
 generalize db w=L0 at *
 obtain⟨k,m,M,s,wd,e,f⟩:=t
 simp only[Typ.pv_mk] at h12 h13 ⊢
 refine ag.intro MK (by simp[F3]) ?_
 simp(maxSteps:=9^7) (disch:=try exact dI) only[F3,Typ.pv_mk,push_cast,seval]
 refine ab.pure hc rfl ?_
 simp(maxSteps:=9^7) (disch:=try exact dI) only[push_cast,seval]
 refine aA hk rfl ?_
 simp(maxSteps:=9^7) (disch:=try exact dI) only[push_cast,seval]
 refine aA h12 rfl ?_
 simp(maxSteps:=9^7) (disch:=try exact dI) only[push_cast,seval]
 refine ab.pure h13 rfl ?_
 simp(maxSteps:=9^7) (disch:=try exact dI) only[push_cast,seval]
theorem gz (p0 p1:PV)(h0:HasT Tryz.prog 26 p0)(h1:HasT Tryz.prog 27 p1):ag Tryz.prog aD 3 [p0,p1] (.bool true):=by
 obtain⟨t,rfl,ht⟩:=BJ h0
 obtain⟨w,rfl,_,_⟩:=kC (f:=PV.int .i64) (Q:=I64) h1 Tryz.underlying27 Mz (fun x hx=>cj hx Tryz.underlying3)
 exact NA t ht w
end Go.Proofs.YtbojpfpliibfbaaGreatDoor
namespace Go.Proofs.YtbojpfpliibfbaaGreatDoor
open Go Go.Ab Go.Lib Go.Proofs
theorem u8X:U8Extra Tryz.prog Tryz.lays196_ren:=⟨by kernel_rfl,by kernel_rfl,by kernel_rfl,by kernel_rfl,by kernel_rfl,by kernel_rfl,by kernel_rfl⟩
theorem BT {W:World}(h1:VarReads Tryz.prog W "unicode/utf8.first" firstData) (h2:VarReads Tryz.prog W "unicode/utf8.acceptRanges" acceptData)
  (h3:VarReads Tryz.prog W "internal/strconv.uint64pow10" (tabData .u64 pow10Tab)):cU aD W (ma W):=by
 have hu:=utf8Tabs_of_readsT (U8Types.of196 Tryz.lays196) u8X h1 h2
 refine wq fun g hg=>?_
 unfold aD at hg ⊢
 by_cases e3:g=3
 ·subst e3
  exact qp (t:=277) (e:=169) (m:=20) h3 (by kernel_rfl) (by kernel_rfl) (by kernel_rfl) (by kernel_rfl) (by kernel_rfl) (by kernel_rfl) (by kernel_rfl)
 rw[if_neg e3] at hg ⊢
 by_cases e1:g=1
 ·subst e1
  rw[if_pos rfl] at hg ⊢
  refine kg (t:=245) (e:=5) (m:=256) h1 (by kernel_rfl) (by kernel_rfl) (by kernel_rfl) (by kernel_rfl) fun o p hp=>?_
  rw[Lb,List.getElem?_map,Option.map_eq_some_iff] at hp
  obtain⟨c,hc,rfl⟩:=hp
  obtain⟨hlt,hcc⟩:=List.getElem?_eq_some_iff.1 hc
  simp at hlt hcc
  subst hcc
  exact⟨_,_,rfl,hu.1 o hlt⟩
 rw[if_neg e1] at hg ⊢
 by_cases e2:g=2
 ·subst e2
  rw[if_pos rfl] at hg ⊢
  refine kg (t:=248) (e:=247) (m:=16) h2 (by kernel_rfl) (by kernel_rfl) (by kernel_rfl) (by kernel_rfl) fun o p hp=>?_
  rw[HF,List.getElem?_map,Option.map_eq_some_iff] at hp
  obtain⟨c,hc,rfl⟩:=hp
  obtain⟨hlt,hcc⟩:=List.getElem?_eq_some_iff.1 hc
  simp at hlt hcc
  subst hcc
  have:=hu.2 (o / 2) (by omega)
  by_cases ho:o % 2=0
  ·rw[if_pos ho]
   refine⟨_,_,rfl,?_⟩
   have:=this.1
   rwa [show 2*(o / 2)=o by omega] at this
  ·rw[if_neg ho]
   refine⟨_,_,rfl,?_⟩
   have:=this.2
   rwa [show 2*(o / 2)+1=o by omega] at this
 rw[if_neg e2] at hg
 exact absurd rfl hg
end Go.Proofs.YtbojpfpliibfbaaGreatDoor
namespace Go.Proofs.YtbojpfpliibfbaaGreatDoor.fixedwidthRepresentableDone
open Go Go.Ab Go.RowKit Go.ChangeShapes Go.WideShapes Go.ChangeAt
theorem own:ownKnob Tryz.prog.godebug=none:=by kernel_rfl
theorem Fr:laidOutB Tryz.prog=true:=by kernel_rfl
theorem Me {W:World}(h:laidMetH Tryz.prog Rows.fixedwidthRepresentableRow.laid W):cU aD W (ma W):=by
 have h':laidMet Tryz.prog Rows.fixedwidthRepresentableRow.laid W:=h
 exact BT (Go.Lib.laidMet.reads h' (n:= "unicode/utf8.first") (d:=Go.Lib.firstData) (by rw[show Go.Lib.firstData=(Rows.laid_unicode_utf8_first:DataW Unit) by kernel_rfl];exact List.Mem.tail _ (List.Mem.tail _ (List.Mem.tail _ (List.Mem.tail _ (List.Mem.tail _ (List.Mem.tail _ (List.Mem.head _))))))))
  (Go.Lib.laidMet.reads h' (n:= "unicode/utf8.acceptRanges") (d:=Go.Lib.acceptData) (by rw[show Go.Lib.acceptData=(Rows.laid_unicode_utf8_acceptRanges:DataW Unit) by kernel_rfl];exact List.Mem.tail _ (List.Mem.tail _ (List.Mem.tail _ (List.Mem.head _)))))
  (Go.Lib.laidMet.reads h' (n:= "internal/strconv.uint64pow10") (d:=(Go.Lib.tabData .u64 Go.Lib.pow10Tab)) (by rw[show (Go.Lib.tabData .u64 Go.Lib.pow10Tab)=(Rows.laid_internal_strconv_uint64pow10:DataW Unit) by kernel_rfl];exact List.Mem.tail _ (List.Mem.tail _ (List.Mem.head _))))
theorem Md:Tryz.f3.params = #[26,27]:=by kernel_rfl
theorem px (H:Type)(enc:TypeId×Value→H)(W:World)(base:Nat)(args:Array Value)(ds gs:List (DataW H))(before:List MemPlace)
  (hval:∀ (j:Nat) t v,Tryz.f3.params[j]? = some t→args[j]? = some v→Value.okWide Tryz.prog W .any base t v)
  (hW:DataW.Whole enc Tryz.prog Tryz.f3.params.toList Rows.fixedwidthRepresentableSpec.vars false W args.toList ds gs before) (hsz:(DataW.weightsEach Tryz.prog (Tryz.f3.params.toList++Rows.fixedwidthRepresentableSpec.plain.varTypes Tryz.prog) (ds++gs)).all (·≤reachBytes)=true) (hL:laidMetH Tryz.prog Rows.fixedwidthRepresentableRow.laid W) :
  Calls Tryz.prog 3 args W fun e W'=>∃ v,e = .returned v∧Rows.fixedwidthRepresentableSpec.post enc Tryz.prog Tryz.f3 false true false false W args v W':=by
 refine Bv (ts:=[26,3,22,9,23,24,54,33,36,34,60,27,4]) (tb:=4) (G:=aD) rfl Fr (by decide +kernel) (by kernel_rfl) (by decide +kernel) (by kernel_rfl) (by kernel_rfl) ?_ hval hW hsz (Me hL) ?_
 ·intro ds hd
  rw[Md] at hd
  match ds,hd with
  | [d0,d1],_=>rfl
 ·intro ps hp hT
  rw[Md] at hp hT
  match ps,hp with
  | [p0,p1],_=>
    exact gz p0 p1 (hT 0 26 p0 rfl rfl) (hT 1 27 p1 rfl rfl)
def rB:DataW Unit→List Value
 | .lit (.int k n)=>[Value.int k n]
 | .agg xs=>xs.map fun x=>match x with
   | .lit (.int k n)=>Value.int k n
   | _=>Go.undef
 | _=>[]
def vT:DataW Unit→Array Value
 | .agg xs=>(xs.flatMap rB).toArray
 | _=>#[]
def lr (d:DataW Unit):Obj→Obj
 | .cells _ t frozen=>.cells (vT d) t frozen
 | o=>o
def Dg (d:DataW Unit):Obj:=
 match d with
 | .iface _ (.ptr (.agg [.lit (.string bs)]))=>.cells #[.string ⟨bs.toArray⟩] 299
 | _=>.cells #[] 299
def CM (k:Nat):Obj→Obj
 | .cells _ t frozen=>.cells #[.iface 297 (.pointer (some ⟨k,0,none⟩))] t frozen
 | o=>o
noncomputable def dE (os:Os):World:=
 { World.holding Tryz.prog os ⟨#[],#[],[]⟩ with heap:=((((((((((World.holding Tryz.prog os ⟨#[],#[],[]⟩).heap.push (Dg Rows.laid_strconv_ErrRange)).push (Dg Rows.laid_strconv_ErrSyntax)).modify 6 (lr Rows.laid_math_bits_deBruijn32tab)).modify 7 (lr Rows.laid_math_bits_deBruijn64tab)).modify 3 (lr Rows.laid_internal_strconv_uint64pow10)).modify 2 (lr Rows.laid_unicode_utf8_acceptRanges)).modify 5 (CM ((World.holding Tryz.prog os ⟨#[],#[],[]⟩).heap.size+0))).modify 4 (CM ((World.holding Tryz.prog os ⟨#[],#[],[]⟩).heap.size+1))).modify 1 (lr Rows.laid_unicode_utf8_first)) }
theorem Bw (os:Os):laidMet Tryz.prog Rows.fixedwidthRepresentableRow.laid ((dE os).forCall (fun _ _=>0) ⟨#[],#[.agg #[.int .i64 0,.int .i64 0,.int .i64 0,.int .i64 0,.slice none 0 0,.slice none 0 0,.slice none 0 0],.slice none 0 0],[]⟩).memory:=
 laidMet_of_run' 8 (by kernel_rfl) (by kernel_rfl)
theorem reads (os:Os){H:Type}(enc:TypeId×Value→H):∃ places,DataW.whole enc Tryz.prog ((dE os).forCall (fun _ _=>0) ⟨#[],#[.agg #[.int .i64 0,.int .i64 0,.int .i64 0,.int .i64 0,.slice none 0 0,.slice none 0 0,.slice none 0 0],.slice none 0 0],[]⟩).memory Tryz.f3.params.toList Rows.fixedwidthRepresentableSpec.vars false (#[.agg #[.int .i64 0,.int .i64 0,.int .i64 0,.int .i64 0,.slice none 0 0,.slice none 0 0,.slice none 0 0],.slice none 0 0]:Array Value).toList 8=some ([.agg [.lit (.int .i64 0),.lit (.int .i64 0),.lit (.int .i64 0),.lit (.int .i64 0),.nil,.nil,.nil],.nil],[],places):=
 ⟨[],by kernel_rfl⟩
theorem LE:Tryz.checked.prog.inits.idxOf? 3=none:=by kernel_rfl
theorem LC (os:Os):World.variablesB Tryz.checked.prog ((dE os).forCall (fun _ _=>0) ⟨#[],#[.agg #[.int .i64 0,.int .i64 0,.int .i64 0,.int .i64 0,.slice none 0 0,.slice none 0 0,.slice none 0 0],.slice none 0 0],[]⟩)=true:=by kernel_rfl
theorem LD (os:Os):List.take ((begin Tryz.checked.prog (fun _ _=>0) default).world.heap.size - Tryz.checked.prog.globals.size) (List.drop Tryz.checked.prog.globals.size ((dE os).forCall (fun _ _=>0) ⟨#[],#[.agg #[.int .i64 0,.int .i64 0,.int .i64 0,.int .i64 0,.slice none 0 0,.slice none 0 0,.slice none 0 0],.slice none 0 0],[]⟩).heap.toList)=List.drop Tryz.checked.prog.globals.size (begin Tryz.checked.prog (fun _ _=>0) default).world.heap.toList:=by kernel_rfl
theorem LB (os:Os):Input.okWideB Tryz.checked.prog ((dE os).forCall (fun _ _=>0) ⟨#[],#[.agg #[.int .i64 0,.int .i64 0,.int .i64 0,.int .i64 0,.slice none 0 0,.slice none 0 0,.slice none 0 0],.slice none 0 0],[]⟩) 3 ⟨#[],#[.agg #[.int .i64 0,.int .i64 0,.int .i64 0,.int .i64 0,.slice none 0 0,.slice none 0 0,.slice none 0 0],.slice none 0 0],[]⟩=true:=by kernel_rfl
theorem IX (os:Os)(started:os.Started)(H:Type)(enc:TypeId×Value→H)(F:Stop.Interp) :
  ReturnsInHanded {} Tryz.checked os 3 .any ((OpenSpec.ofChange Rows.fixedwidthRepresentableSpec).preRow enc Tryz.prog Tryz.f3 Rows.fixedwidthRepresentableRow.domain false Rows.fixedwidthRepresentableRow.laid) (((OpenSpec.ofChange Rows.fixedwidthRepresentableSpec).at F).post enc Tryz.prog Tryz.f3 false true false false):=by
 obtain⟨places,hx⟩:=reads os enc
 refine returnsInHanded_of_row (C:=Tryz.checked) (s:=OpenSpec.ofChange Rows.fixedwidthRepresentableSpec) own started LE Tryz.func3
  (witness_row_at (enc:=enc) (C:=Tryz.checked) false (dE os) #[.agg #[.int .i64 0,.int .i64 0,.int .i64 0,.int .i64 0,.slice none 0 0,.slice none 0 0,.slice none 0 0],.slice none 0 0] rfl (LC os) (LD os) (LB os)
   (OpenSpec.preRow_of_cond 8 hx (by kernel_rfl) (fun k hk=>by cases hk) (by kernel_rfl) (Bw os))) ?_
 intro W base args ds gs before hval hW _ _ hsz hL _ _
 exact px H enc W base args ds gs before hval hW hsz hL
end Go.Proofs.YtbojpfpliibfbaaGreatDoor.fixedwidthRepresentableDone
