/- A part of the proof for FixedwidthWidthsCardSaid. -/
import Derived.Stop.LaidErr
import Derived.WalkKit
import Derived.Lib.LaidTab
import Derived.SevenTiedAt
import Derived.Test.YtbojpfpliibfbaaGreatDoorWiR8
import Derived.Test.YtbojpfpliibfbaaGreatDoorCards
import Derived.Test.YtbojpfpliibfbaaGreatDoorTie
set_option maxRecDepth 100000
set_option linter.unusedVariables false
set_option linter.unusedSimpArgs false
namespace Go.Proofs.YtbojpfpliibfbaaGreatDoor.fixedwidthWidthsDone
open Go Go.Ab Go.RowKit Go.ChangeShapes Go.WideShapes Go.ChangeAt
theorem own:ownKnob Tryz.prog.godebug=none:=by kernel_rfl
theorem Fb:laidOutB Tryz.prog=true:=by kernel_rfl
theorem LJ {W:World}(h:laidMetH Tryz.prog Rows.fixedwidthWidthsRow.laid W):cQ aD W (ma W):=by
 have h':laidMet Tryz.prog Rows.fixedwidthWidthsRow.laid W:=h
 exact BI (Go.Lib.laidMet.reads h' (n:= "unicode/utf8.first") (d:=Go.Lib.firstData) (by rw[show Go.Lib.firstData=(Rows.laid_unicode_utf8_first:DataW Unit) by kernel_rfl];exact List.Mem.tail _ (List.Mem.tail _ (List.Mem.tail _ (List.Mem.tail _ (List.Mem.tail _ (List.Mem.tail _ (List.Mem.head _))))))))
  (Go.Lib.laidMet.reads h' (n:= "unicode/utf8.acceptRanges") (d:=Go.Lib.acceptData) (by rw[show Go.Lib.acceptData=(Rows.laid_unicode_utf8_acceptRanges:DataW Unit) by kernel_rfl];exact List.Mem.tail _ (List.Mem.tail _ (List.Mem.tail _ (List.Mem.head _)))))
  (Go.Lib.laidMet.reads h' (n:= "internal/strconv.uint64pow10") (d:=(Go.Lib.tabData .u64 Go.Lib.pow10Tab)) (by rw[show (Go.Lib.tabData .u64 Go.Lib.pow10Tab)=(Rows.laid_internal_strconv_uint64pow10:DataW Unit) by kernel_rfl];exact List.Mem.tail _ (List.Mem.tail _ (List.Mem.head _))))
theorem LI:Tryz.f9.params = #[26]:=by kernel_rfl
theorem pr (H:Type)(enc:TypeId×Value→H)(W:World)(base:Nat)(args:Array Value)(ds gs:List (DataW H))(before:List MemPlace)
  (hval:∀ (j:Nat) t v,Tryz.f9.params[j]? = some t→args[j]? = some v→Value.okWide Tryz.prog W .any base t v)
  (hW:DataW.Whole enc Tryz.prog Tryz.f9.params.toList Rows.fixedwidthWidthsSpec.vars false W args.toList ds gs before) (hsz:(DataW.weightsEach Tryz.prog (Tryz.f9.params.toList++Rows.fixedwidthWidthsSpec.plain.varTypes Tryz.prog) (ds++gs)).all (·≤reachBytes)=true) (hL:laidMetH Tryz.prog Rows.fixedwidthWidthsRow.laid W) :
  Calls Tryz.prog 9 args W fun e W'=>∃ v,e = .returned v∧Rows.fixedwidthWidthsSpec.post enc Tryz.prog Tryz.f9 false true false false W args v W':=by
 refine Bj (ts:=[26,3,22,9,23,24,54,33,36,34,60,4]) (tb:=4) (G:=aD) rfl Fb (by decide +kernel) (by kernel_rfl) (by decide +kernel) (by kernel_rfl) (by kernel_rfl) ?_ hval hW hsz (LJ hL) ?_
 ·intro ds hd
  rw[LI] at hd
  match ds,hd with
  | [d0],_=>rfl
 ·intro ps hp hT
  rw[LI] at hp hT
  match ps,hp with
  | [p0],_=>
    exact sD p0 (hT 0 26 p0 rfl rfl)
def rr:DataW Unit→List Value
 | .lit (.int k n)=>[Value.int k n]
 | .agg xs=>xs.map fun x=>match x with
   | .lit (.int k n)=>Value.int k n
   | _=>Go.undef
 | _=>[]
def vK:DataW Unit→Array Value
 | .agg xs=>(xs.flatMap rr).toArray
 | _=>#[]
def lr (d:DataW Unit):Obj→Obj
 | .cells _ t frozen=>.cells (vK d) t frozen
 | o=>o
def CZ (d:DataW Unit):Obj:=
 match d with
 | .iface _ (.ptr (.agg [.lit (.string bs)]))=>.cells #[.string ⟨bs.toArray⟩] 299
 | _=>.cells #[] 299
def Cy (k:Nat):Obj→Obj
 | .cells _ t frozen=>.cells #[.iface 297 (.pointer (some ⟨k,0,none⟩))] t frozen
 | o=>o
noncomputable def dy (os:Os):World:=
 { World.holding Tryz.prog os ⟨#[],#[],[]⟩ with heap:=((((((((((World.holding Tryz.prog os ⟨#[],#[],[]⟩).heap.push (CZ Rows.laid_strconv_ErrRange)).push (CZ Rows.laid_strconv_ErrSyntax)).modify 6 (lr Rows.laid_math_bits_deBruijn32tab)).modify 7 (lr Rows.laid_math_bits_deBruijn64tab)).modify 3 (lr Rows.laid_internal_strconv_uint64pow10)).modify 2 (lr Rows.laid_unicode_utf8_acceptRanges)).modify 5 (Cy ((World.holding Tryz.prog os ⟨#[],#[],[]⟩).heap.size+0))).modify 4 (Cy ((World.holding Tryz.prog os ⟨#[],#[],[]⟩).heap.size+1))).modify 1 (lr Rows.laid_unicode_utf8_first)) }
theorem Bk (os:Os):laidMet Tryz.prog Rows.fixedwidthWidthsRow.laid ((dy os).forCall (fun _ _=>0) ⟨#[],#[.agg #[.int .i64 0,.int .i64 0,.int .i64 0,.int .i64 0,.slice none 0 0,.slice none 0 0,.slice none 0 0]],[]⟩).memory:=
 laidMet_of_run' 8 (by kernel_rfl) (by kernel_rfl)
theorem reads (os:Os){H:Type}(enc:TypeId×Value→H):∃ places,DataW.whole enc Tryz.prog ((dy os).forCall (fun _ _=>0) ⟨#[],#[.agg #[.int .i64 0,.int .i64 0,.int .i64 0,.int .i64 0,.slice none 0 0,.slice none 0 0,.slice none 0 0]],[]⟩).memory Tryz.f9.params.toList Rows.fixedwidthWidthsSpec.vars false (#[.agg #[.int .i64 0,.int .i64 0,.int .i64 0,.int .i64 0,.slice none 0 0,.slice none 0 0,.slice none 0 0]]:Array Value).toList 8=some ([.agg [.lit (.int .i64 0),.lit (.int .i64 0),.lit (.int .i64 0),.lit (.int .i64 0),.nil,.nil,.nil]],[],places):=
 ⟨[],by kernel_rfl⟩
theorem Lb:Tryz.checked.prog.inits.idxOf? 9=none:=by kernel_rfl
theorem K9 (os:Os):World.variablesB Tryz.checked.prog ((dy os).forCall (fun _ _=>0) ⟨#[],#[.agg #[.int .i64 0,.int .i64 0,.int .i64 0,.int .i64 0,.slice none 0 0,.slice none 0 0,.slice none 0 0]],[]⟩)=true:=by kernel_rfl
theorem La (os:Os):List.take ((begin Tryz.checked.prog (fun _ _=>0) default).world.heap.size - Tryz.checked.prog.globals.size) (List.drop Tryz.checked.prog.globals.size ((dy os).forCall (fun _ _=>0) ⟨#[],#[.agg #[.int .i64 0,.int .i64 0,.int .i64 0,.int .i64 0,.slice none 0 0,.slice none 0 0,.slice none 0 0]],[]⟩).heap.toList)=List.drop Tryz.checked.prog.globals.size (begin Tryz.checked.prog (fun _ _=>0) default).world.heap.toList:=by kernel_rfl
theorem K8 (os:Os):Input.okWideB Tryz.checked.prog ((dy os).forCall (fun _ _=>0) ⟨#[],#[.agg #[.int .i64 0,.int .i64 0,.int .i64 0,.int .i64 0,.slice none 0 0,.slice none 0 0,.slice none 0 0]],[]⟩) 9 ⟨#[],#[.agg #[.int .i64 0,.int .i64 0,.int .i64 0,.int .i64 0,.slice none 0 0,.slice none 0 0,.slice none 0 0]],[]⟩=true:=by kernel_rfl
theorem IA (os:Os)(started:os.Started)(H:Type)(enc:TypeId×Value→H)(F:Stop.Interp) :
  ReturnsInHanded {} Tryz.checked os 9 .any ((OpenSpec.ofChange Rows.fixedwidthWidthsSpec).preRow enc Tryz.prog Tryz.f9 Rows.fixedwidthWidthsRow.domain false Rows.fixedwidthWidthsRow.laid) (((OpenSpec.ofChange Rows.fixedwidthWidthsSpec).at F).post enc Tryz.prog Tryz.f9 false true false false):=by
 obtain⟨places,hx⟩:=reads os enc
 refine returnsInHanded_of_row (C:=Tryz.checked) (s:=OpenSpec.ofChange Rows.fixedwidthWidthsSpec) own started Lb Tryz.func9
  (witness_row_at (enc:=enc) (C:=Tryz.checked) false (dy os) #[.agg #[.int .i64 0,.int .i64 0,.int .i64 0,.int .i64 0,.slice none 0 0,.slice none 0 0,.slice none 0 0]] rfl (K9 os) (La os) (K8 os)
   (OpenSpec.preRow_of_cond 8 hx (by kernel_rfl) (fun k hk=>by cases hk) (by kernel_rfl) (Bk os))) ?_
 intro W base args ds gs before hval hW _ _ hsz hL _ _
 exact pr H enc W base args ds gs before hval hW hsz hL
end Go.Proofs.YtbojpfpliibfbaaGreatDoor.fixedwidthWidthsDone
namespace Go.Proofs.YtbojpfpliibfbaaGreatDoor.fixedwidthWidthsDone
open Go Go.Ab Go.RowKit Go.ChangeShapes Go.WideShapes Go.ChangeAt
set_option maxHeartbeats 100000000 in
theorem LL:joinedFacts Tryz.pinned.checked.prog 9 Tryz.f9 (OpenSpec.ofChange Rows.fixedwidthWidthsSpec).bare Rows.fixedwidthWidthsRow=true:=by
 unfold joinedFacts
 repeat' (with_reducible refine Bool.and_eq_true_iff.2 ⟨?_,?_⟩)
 all_goals as_aux_lemma=>kernel_rfl
end Go.Proofs.YtbojpfpliibfbaaGreatDoor.fixedwidthWidthsDone
