/- A part. -/
import Derived.Stop.LaidErr
import Derived.WalkKit
import Derived.Lib.LaidTab
import Derived.SevenTiedAt
import Derived.Test.YtngchmkoadaecaaGreatDoorClJMl0
import Derived.Test.YtngchmkoadaecaaGreatDoorCards
import Derived.Test.YtngchmkoadaecaaGreatDoorTie
set_option linter.unusedVariables false
set_option linter.unusedSimpArgs false
set_option maxHeartbeats 16000000
set_option maxRecDepth 100000
namespace Go.Proofs.YtngchmkoadaecaaGreatDoor.resolveCleanDone
open Go Go.Ab Go.RowKit Go.ChangeShapes Go.WideShapes Go.ChangeAt
theorem own:ownKnob Tryz.prog.godebug=none:=by kernel_rfl
theorem LP:laidOutB Tryz.prog=true:=by kernel_rfl
theorem RX {W:World}(h:laidMetH Tryz.prog Rows.resolveCleanRow.laid W):du aB W (oq W):=by
 have h':laidMet Tryz.prog Rows.resolveCleanRow.laid W:=h
 exact Hg (Go.Lib.laidMet.reads h' (n:= "unicode/utf8.first") (d:=Go.Lib.firstData) (by rw[show Go.Lib.firstData=(Rows.laid_unicode_utf8_first:DataW Unit) by kernel_rfl];exact List.Mem.tail _ (List.Mem.tail _ (List.Mem.tail _ (List.Mem.tail _ (List.Mem.head _))))))
  (Go.Lib.laidMet.reads h' (n:= "unicode/utf8.acceptRanges") (d:=Go.Lib.acceptData) (by rw[show Go.Lib.acceptData=(Rows.laid_unicode_utf8_acceptRanges:DataW Unit) by kernel_rfl];exact List.Mem.tail _ (List.Mem.tail _ (List.Mem.tail _ (List.Mem.head _)))))
  (Go.Lib.laidMet.reads h' (n:= "internal/strconv.uint64pow10") (d:=(Go.Lib.tabData .u64 Go.Lib.pow10Tab)) (by rw[show (Go.Lib.tabData .u64 Go.Lib.pow10Tab)=(Rows.laid_internal_strconv_uint64pow10:DataW Unit) by kernel_rfl];exact List.Mem.tail _ (List.Mem.tail _ (List.Mem.head _))))
theorem RW:Tryz.f4.params = #[27]:=by kernel_rfl
theorem tl (H:Type)(enc:TypeId×Value->H)(W:World)(base:Nat)(args:Array Value)(ds gs:List (DataW H))(before:List MemPlace)
  (hval:∀ (j:Nat) t v,Tryz.f4.params[j]? = some t->args[j]? = some v->Value.okWide Tryz.prog W .any base t v)
  (hW:DataW.Whole enc Tryz.prog Tryz.f4.params.toList Rows.resolveCleanSpec.vars false W args.toList ds gs before) (hsz:(DataW.weightsEach Tryz.prog (Tryz.f4.params.toList++Rows.resolveCleanSpec.plain.varTypes Tryz.prog) (ds++gs)).all (·<=reachBytes)=true) (hL:laidMetH Tryz.prog Rows.resolveCleanRow.laid W) :
  Calls Tryz.prog 4 args W fun e W'=>∃ v,e = .returned v/\Rows.resolveCleanSpec.post enc Tryz.prog Tryz.f4 false true false false W args v W':=by
 refine GH (ts:=[27,3,22,72,9,70,66,67,68,105,103,108,106,138,23,39,37,35,24,41,4,25,64,62,51,44,159,47,45,183,48,61,49,111]) (tb:=4) (G:=aB) rfl LP (by decide +kernel) (by kernel_rfl) (by decide +kernel) (by kernel_rfl) (by kernel_rfl) ?_ hval hW hsz (RX hL) ?_
 ·intro ds hd
  rw[RW] at hd
  match ds,hd with
  | [d0],_=>rfl
 ·intro ps hp hT
  rw[RW] at hp hT
  match ps,hp with
  | [p0],_=>
    exact HI p0 (hT 0 27 p0 rfl rfl)
def wk:DataW Unit->List Value
 | .lit (.int k n)=>[Value.int k n]
 | .agg xs=>xs.map fun x=>match x with
   | .lit (.int k n)=>Value.int k n
   | _=>Go.undef
 | _=>[]
def BO:DataW Unit->Array Value
 | .agg xs=>(xs.flatMap wk).toArray
 | _=>#[]
def nt (d:DataW Unit):Obj->Obj
 | .cells _ t frozen=>.cells (BO d) t frozen
 | o=>o
noncomputable def dO (os:Os):World:=
 { World.holding Tryz.prog os ⟨#[],#[],[]⟩ with heap:=((((((World.holding Tryz.prog os ⟨#[],#[],[]⟩).heap.modify 4 (nt Rows.laid_math_bits_deBruijn32tab)).modify 5 (nt Rows.laid_math_bits_deBruijn64tab)).modify 2 (nt Rows.laid_internal_strconv_uint64pow10)).modify 1 (nt Rows.laid_unicode_utf8_acceptRanges)).modify 0 (nt Rows.laid_unicode_utf8_first)) }
theorem GK (os:Os):laidMet Tryz.prog Rows.resolveCleanRow.laid ((dO os).forCall (fun _ _=>0) ⟨#[],#[.agg #[.int .i64 0,.slice none 0 0,.slice none 0 0,.slice none 0 0,.slice none 0 0]],[]⟩).memory:=
 laidMet_of_run' 8 (by kernel_rfl) (by kernel_rfl)
theorem reads (os:Os){H:Type}(enc:TypeId×Value->H):∃ places,DataW.whole enc Tryz.prog ((dO os).forCall (fun _ _=>0) ⟨#[],#[.agg #[.int .i64 0,.slice none 0 0,.slice none 0 0,.slice none 0 0,.slice none 0 0]],[]⟩).memory Tryz.f4.params.toList Rows.resolveCleanSpec.vars false (#[.agg #[.int .i64 0,.slice none 0 0,.slice none 0 0,.slice none 0 0,.slice none 0 0]]:Array Value).toList 8=some ([.agg [.lit (.int .i64 0),.nil,.nil,.nil,.nil]],[],places):=
 ⟨[],by kernel_rfl⟩
theorem Rm:Tryz.checked.prog.inits.idxOf? 4=none:=by kernel_rfl
theorem Rk (os:Os):World.variablesB Tryz.checked.prog ((dO os).forCall (fun _ _=>0) ⟨#[],#[.agg #[.int .i64 0,.slice none 0 0,.slice none 0 0,.slice none 0 0,.slice none 0 0]],[]⟩)=true:=by kernel_rfl
theorem Rl (os:Os):List.take ((begin Tryz.checked.prog (fun _ _=>0) default).world.heap.size - Tryz.checked.prog.globals.size) (List.drop Tryz.checked.prog.globals.size ((dO os).forCall (fun _ _=>0) ⟨#[],#[.agg #[.int .i64 0,.slice none 0 0,.slice none 0 0,.slice none 0 0,.slice none 0 0]],[]⟩).heap.toList)=List.drop Tryz.checked.prog.globals.size (begin Tryz.checked.prog (fun _ _=>0) default).world.heap.toList:=by kernel_rfl
theorem Rj (os:Os):Input.okWideB Tryz.checked.prog ((dO os).forCall (fun _ _=>0) ⟨#[],#[.agg #[.int .i64 0,.slice none 0 0,.slice none 0 0,.slice none 0 0,.slice none 0 0]],[]⟩) 4 ⟨#[],#[.agg #[.int .i64 0,.slice none 0 0,.slice none 0 0,.slice none 0 0,.slice none 0 0]],[]⟩=true:=by kernel_rfl
theorem OX (os:Os)(started:os.Started)(H:Type)(enc:TypeId×Value->H)(F:Stop.Interp) :
  ReturnsInHanded {} Tryz.checked os 4 .any ((OpenSpec.ofChange Rows.resolveCleanSpec).preRow enc Tryz.prog Tryz.f4 Rows.resolveCleanRow.domain false Rows.resolveCleanRow.laid) (((OpenSpec.ofChange Rows.resolveCleanSpec).at F).post enc Tryz.prog Tryz.f4 false true false false):=by
 obtain⟨places,hx⟩:=reads os enc
 refine returnsInHanded_of_row (C:=Tryz.checked) (s:=OpenSpec.ofChange Rows.resolveCleanSpec) own started Rm Tryz.func4
  (witness_row_at (enc:=enc) (C:=Tryz.checked) false (dO os) #[.agg #[.int .i64 0,.slice none 0 0,.slice none 0 0,.slice none 0 0,.slice none 0 0]] rfl (Rk os) (Rl os) (Rj os)
   (OpenSpec.preRow_of_cond 8 hx (by kernel_rfl) (fun k hk=>by cases hk) (by kernel_rfl) (GK os))) ?_
 intro W base args ds gs before hval hW _ _ hsz hL _ _
 exact tl H enc W base args ds gs before hval hW hsz hL
theorem R0:joinedFacts Tryz.pinned.checked.prog 4 Tryz.f4 (OpenSpec.ofChange Rows.resolveCleanSpec).bare Rows.resolveCleanRow=true:=by
 unfold joinedFacts
 repeat' (with_reducible refine Bool.and_eq_true_iff.2 ⟨?_,?_⟩)
 all_goals as_aux_lemma=>kernel_rfl
