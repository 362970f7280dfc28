/- A part of the proof for FixedwidthRefusesCardSaid. -/
import Derived.Stop.LaidErr
import Derived.WalkKit
import Derived.Lib.LaidTab
import Derived.SevenTiedAt
import Derived.Test.YtedanlflegfomaaGreatDoorRefG7
import Derived.Test.YtedanlflegfomaaGreatDoorCards
import Derived.Test.YtedanlflegfomaaGreatDoorTie
set_option maxRecDepth 100000
set_option linter.unusedVariables false
set_option linter.unusedSimpArgs false
namespace Go.Proofs.YtedanlflegfomaaGreatDoor.fixedwidthRefusesDone
open Go Go.Ab Go.RowKit Go.ChangeShapes Go.WideShapes Go.ChangeAt
theorem own:ownKnob Tryz.prog.godebug=none:=by kernel_rfl
theorem Dc:laidOutB Tryz.prog=true:=by kernel_rfl
theorem Ix {W:World}(h:laidMetH Tryz.prog Rows.fixedwidthRefusesRow.laid W):dz aA W (kM W):=by
 have h':laidMet Tryz.prog Rows.fixedwidthRefusesRow.laid W:=h
 exact zP (Go.Lib.laidMet.reads h' (n:= "unicode/utf8.first") (d:=Go.Lib.firstData) (by rw[show Go.Lib.firstData=(Rows.laid_unicode_utf8_first:DataW Unit) by kernel_rfl];exact List.Mem.tail _ (List.Mem.tail _ (List.Mem.tail _ (List.Mem.tail _ (List.Mem.tail _ (List.Mem.tail _ (List.Mem.head _))))))))
  (Go.Lib.laidMet.reads h' (n:= "unicode/utf8.acceptRanges") (d:=Go.Lib.acceptData) (by rw[show Go.Lib.acceptData=(Rows.laid_unicode_utf8_acceptRanges:DataW Unit) by kernel_rfl];exact List.Mem.tail _ (List.Mem.tail _ (List.Mem.tail _ (List.Mem.head _)))))
  (Go.Lib.laidMet.reads h' (n:= "internal/strconv.uint64pow10") (d:=(Go.Lib.tabData .u64 Go.Lib.pow10Tab)) (by rw[show (Go.Lib.tabData .u64 Go.Lib.pow10Tab)=(Rows.laid_internal_strconv_uint64pow10:DataW Unit) by kernel_rfl];exact List.Mem.tail _ (List.Mem.tail _ (List.Mem.head _))))
theorem Iw:Tryz.f3.params = #[9]:=by kernel_rfl
theorem oh (H:Type)(enc:TypeId×Value→H)(W:World)(base:Nat)(args:Array Value)(ds gs:List (DataW H))(before:List MemPlace)
  (hval:∀ (j:Nat) t v,Tryz.f3.params[j]? = some t→args[j]? = some v→Value.okWide Tryz.prog W .any base t v)
  (hW:DataW.Whole enc Tryz.prog Tryz.f3.params.toList Rows.fixedwidthRefusesSpec.vars false W args.toList ds gs before) (hsz:(DataW.weightsEach Tryz.prog (Tryz.f3.params.toList++Rows.fixedwidthRefusesSpec.plain.varTypes Tryz.prog) (ds++gs)).all (·≤reachBytes)=true) (hL:laidMetH Tryz.prog Rows.fixedwidthRefusesRow.laid W) :
  Calls Tryz.prog 3 args W fun e W'=>∃ v,e = .returned v∧Rows.fixedwidthRefusesSpec.post enc Tryz.prog Tryz.f3 false true false false W args v W':=by
 refine zw (ts:=[9,4]) (tb:=4) (G:=aA) rfl Dc (by decide +kernel) (by kernel_rfl) (by decide +kernel) (by kernel_rfl) (by kernel_rfl) ?_ hval hW hsz (Ix hL) ?_
 ·intro ds hd
  rw[Iw] at hd
  match ds,hd with
  | [d0],_=>rfl
 ·intro ps hp hT
  rw[Iw] at hp hT
  match ps,hp with
  | [p0],_=>
    exact o0 p0 (hT 0 9 p0 rfl rfl)
def qe:DataW Unit→List Value
 | .lit (.int k n)=>[Value.int k n]
 | .agg xs=>xs.map fun x=>match x with
   | .lit (.int k n)=>Value.int k n
   | _=>Go.undef
 | _=>[]
def uq:DataW Unit→Array Value
 | .agg xs=>(xs.flatMap qe).toArray
 | _=>#[]
def jT (d:DataW Unit):Obj→Obj
 | .cells _ t frozen=>.cells (uq d) t frozen
 | o=>o
def Bx (d:DataW Unit):Obj:=
 match d with
 | .iface _ (.ptr (.agg [.lit (.string bs)]))=>.cells #[.string ⟨bs.toArray⟩] 291
 | _=>.cells #[] 291
def A9 (k:Nat):Obj→Obj
 | .cells _ t frozen=>.cells #[.iface 289 (.pointer (some ⟨k,0,none⟩))] t frozen
 | o=>o
noncomputable def cC (os:Os):World:=
 { World.holding Tryz.prog os ⟨#[],#[],[]⟩ with heap:=((((((((((World.holding Tryz.prog os ⟨#[],#[],[]⟩).heap.push (Bx Rows.laid_strconv_ErrRange)).push (Bx Rows.laid_strconv_ErrSyntax)).modify 6 (jT Rows.laid_math_bits_deBruijn32tab)).modify 7 (jT Rows.laid_math_bits_deBruijn64tab)).modify 3 (jT Rows.laid_internal_strconv_uint64pow10)).modify 2 (jT Rows.laid_unicode_utf8_acceptRanges)).modify 5 (A9 ((World.holding Tryz.prog os ⟨#[],#[],[]⟩).heap.size+0))).modify 4 (A9 ((World.holding Tryz.prog os ⟨#[],#[],[]⟩).heap.size+1))).modify 1 (jT Rows.laid_unicode_utf8_first)) }
theorem zx (os:Os):laidMet Tryz.prog Rows.fixedwidthRefusesRow.laid ((cC os).forCall (fun _ _=>0) ⟨#[],#[.string ⟨#[]⟩],[]⟩).memory:=
 laidMet_of_run' 8 (by kernel_rfl) (by kernel_rfl)
theorem reads (os:Os){H:Type}(enc:TypeId×Value→H):∃ places,DataW.whole enc Tryz.prog ((cC os).forCall (fun _ _=>0) ⟨#[],#[.string ⟨#[]⟩],[]⟩).memory Tryz.f3.params.toList Rows.fixedwidthRefusesSpec.vars false (#[.string ⟨#[]⟩]:Array Value).toList 8=some ([.lit (.string [])],[],places):=
 ⟨[],by kernel_rfl⟩
theorem H5:Tryz.checked.prog.inits.idxOf? 3=none:=by kernel_rfl
theorem H3 (os:Os):World.variablesB Tryz.checked.prog ((cC os).forCall (fun _ _=>0) ⟨#[],#[.string ⟨#[]⟩],[]⟩)=true:=by kernel_rfl
theorem H4 (os:Os):List.take ((begin Tryz.checked.prog (fun _ _=>0) default).world.heap.size - Tryz.checked.prog.globals.size) (List.drop Tryz.checked.prog.globals.size ((cC os).forCall (fun _ _=>0) ⟨#[],#[.string ⟨#[]⟩],[]⟩).heap.toList)=List.drop Tryz.checked.prog.globals.size (begin Tryz.checked.prog (fun _ _=>0) default).world.heap.toList:=by kernel_rfl
theorem H2 (os:Os):Input.okWideB Tryz.checked.prog ((cC os).forCall (fun _ _=>0) ⟨#[],#[.string ⟨#[]⟩],[]⟩) 3 ⟨#[],#[.string ⟨#[]⟩],[]⟩=true:=by kernel_rfl
theorem FT (os:Os)(started:os.Started)(H:Type)(enc:TypeId×Value→H)(F:Stop.Interp) :
  ReturnsInHanded {} Tryz.checked os 3 .any ((OpenSpec.ofChange Rows.fixedwidthRefusesSpec).preRow enc Tryz.prog Tryz.f3 Rows.fixedwidthRefusesRow.domain false Rows.fixedwidthRefusesRow.laid) (((OpenSpec.ofChange Rows.fixedwidthRefusesSpec).at F).post enc Tryz.prog Tryz.f3 false true false false):=by
 obtain⟨places,hx⟩:=reads os enc
 refine returnsInHanded_of_row (C:=Tryz.checked) (s:=OpenSpec.ofChange Rows.fixedwidthRefusesSpec) own started H5 Tryz.func3
  (witness_row_at (enc:=enc) (C:=Tryz.checked) false (cC os) #[.string ⟨#[]⟩] rfl (H3 os) (H4 os) (H2 os)
   (OpenSpec.preRow_of_cond 8 hx (by kernel_rfl) (fun k hk=>by cases hk) (by kernel_rfl) (zx os))) ?_
 intro W base args ds gs before hval hW _ _ hsz hL _ _
 exact oh H enc W base args ds gs before hval hW hsz hL
end Go.Proofs.YtedanlflegfomaaGreatDoor.fixedwidthRefusesDone
set_option maxRecDepth 100000
set_option linter.unusedVariables false
set_option linter.unusedSimpArgs false
namespace Go.Proofs.YtedanlflegfomaaGreatDoor.fixedwidthRefusesDone
open Go Go.Ab Go.RowKit Go.ChangeShapes Go.WideShapes Go.ChangeAt
set_option maxHeartbeats 100000000 in
theorem IC:joinedFacts Tryz.pinned.checked.prog 3 Tryz.f3 (OpenSpec.ofChange Rows.fixedwidthRefusesSpec).bare Rows.fixedwidthRefusesRow=true:=by
 unfold joinedFacts
 repeat' (with_reducible refine Bool.and_eq_true_iff.2 ⟨?_,?_⟩)
 all_goals as_aux_lemma=>kernel_rfl
end Go.Proofs.YtedanlflegfomaaGreatDoor.fixedwidthRefusesDone
