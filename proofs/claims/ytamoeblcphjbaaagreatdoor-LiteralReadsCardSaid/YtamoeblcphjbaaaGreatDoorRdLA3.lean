/- A part of the proof for LiteralReadsCardSaid. -/
import Derived.Stop.LaidErr
import Derived.WalkKit
import Derived.Lib.LaidTab
import Derived.SevenTiedAt
import Derived.Test.YtamoeblcphjbaaaGreatDoorRdL20
import Derived.Test.YtamoeblcphjbaaaGreatDoorCards
import Derived.Test.YtamoeblcphjbaaaGreatDoorTie
set_option maxRecDepth 100000
set_option linter.unusedVariables false
set_option linter.unusedSimpArgs false
namespace Go.Proofs.YtamoeblcphjbaaaGreatDoor.literalReadsDone
open Go Go.Ab Go.RowKit Go.ChangeShapes Go.WideShapes Go.ChangeAt
theorem own:ownKnob Tryz.prog.godebug=none:=by kernel_rfl
theorem I8:laidOutB Tryz.prog=true:=by kernel_rfl
theorem P4 {W:World}(h:laidMetH Tryz.prog Rows.literalReadsRow.laid W):∃ p,cw (dD 270 p) W (mK W):=by
 have h':laidMet Tryz.prog Rows.literalReadsRow.laid W:=h
 obtain⟨a,s,e1,e2,_⟩:=MY (((((h'.tail).tail).tail).tail).tail)
 exact AH (Go.Lib.laidMet.reads h' (n:= "unicode/utf8.first") (d:=Go.Lib.firstData) (by rw[show Go.Lib.firstData=(Rows.laid_unicode_utf8_first:DataW Unit) by kernel_rfl];exact List.Mem.tail _ (List.Mem.tail _ (List.Mem.tail _ (List.Mem.tail _ (List.Mem.tail _ (List.Mem.tail _ (List.Mem.head _))))))))
  (Go.Lib.laidMet.reads h' (n:= "unicode/utf8.acceptRanges") (d:=Go.Lib.acceptData) (by rw[show Go.Lib.acceptData=(Rows.laid_unicode_utf8_acceptRanges:DataW Unit) by kernel_rfl];exact List.Mem.tail _ (List.Mem.tail _ (List.Mem.tail _ (List.Mem.head _)))))
  (Go.Lib.laidMet.reads h' (n:= "internal/strconv.uint64pow10") (d:=(Go.Lib.tabData .u64 Go.Lib.pow10Tab)) (by rw[show (Go.Lib.tabData .u64 Go.Lib.pow10Tab)=(Rows.laid_internal_strconv_uint64pow10:DataW Unit) by kernel_rfl];exact List.Mem.tail _ (List.Mem.tail _ (List.Mem.head _))))
  (Go.Lib.laidMet.reads h' (n:= "math/bits.deBruijn64tab") (d:=(Go.Lib.tabData .u8 (Go.Lib.deBruijn64tab.map fun n:Nat=>(n:Int)))) (by rw[show (Go.Lib.tabData .u8 (Go.Lib.deBruijn64tab.map fun n:Nat=>(n:Int)))=(Rows.laid_math_bits_deBruijn64tab:DataW Unit) by kernel_rfl];exact List.Mem.tail _ (List.Mem.head _)))
  ⟨a,s,e1,e2⟩
theorem P2:Tryz.f4.params = #[25]:=by kernel_rfl
theorem jt (H:Type)(enc:TypeId×Value→H)(W:World)(base:Nat)(args:Array Value)(ds gs:List (DataW H))(before:List MemPlace)
  (hval:∀ (j:Nat) t v,Tryz.f4.params[j]? = some t→args[j]? = some v→Value.okWide Tryz.prog W .any base t v)
  (hW:DataW.Whole enc Tryz.prog Tryz.f4.params.toList Rows.literalReadsSpec.vars false W args.toList ds gs before) (hsz:(DataW.weightsEach Tryz.prog (Tryz.f4.params.toList++Rows.literalReadsSpec.plain.varTypes Tryz.prog) (ds++gs)).all (·≤reachBytes)=true) (hL:laidMetH Tryz.prog Rows.literalReadsRow.laid W) :
  Calls Tryz.prog 4 args W fun e W'=>∃ v,e = .returned v∧Rows.literalReadsSpec.post enc Tryz.prog Tryz.f4 false true false false W args v W':=by
 obtain⟨p,hp0⟩:=P4 hL
 refine E2 (ts:=[25,3,9,22,23,39,4]) (tb:=4) (G:=dD 270 p) rfl I8 (by decide +kernel) (by kernel_rfl) (by decide +kernel) (by kernel_rfl) (by kernel_rfl) ?_ hval hW hsz hp0 ?_
 ·intro ds hd
  rw[P2] at hd
  match ds,hd with
  | [d0],_=>rfl
 ·intro ps hp hT
  rw[P2] at hp hT
  match ps,hp with
  | [p0],_=>
    exact DI p p0 (hT 0 25 p0 rfl rfl)
def vN:DataW Unit→List Value
 | .lit (.int k n)=>[Value.int k n]
 | .agg xs=>xs.map fun x=>match x with
   | .lit (.int k n)=>Value.int k n
   | _=>Go.undef
 | _=>[]
def Ai:DataW Unit→Array Value
 | .agg xs=>(xs.flatMap vN).toArray
 | _=>#[]
def nK (d:DataW Unit):Obj→Obj
 | .cells _ t frozen=>.cells (Ai d) t frozen
 | o=>o
def GU (d:DataW Unit):Obj:=
 match d with
 | .iface _ (.ptr (.agg [.lit (.string bs)]))=>.cells #[.string ⟨bs.toArray⟩] 272
 | _=>.cells #[] 272
def Gj (k:Nat):Obj→Obj
 | .cells _ t frozen=>.cells #[.iface 270 (.pointer (some ⟨k,0,none⟩))] t frozen
 | o=>o
noncomputable def dY (os:Os):World:=
 { World.holding Tryz.prog os ⟨#[],#[],[]⟩ with heap:=((((((((((World.holding Tryz.prog os ⟨#[],#[],[]⟩).heap.push (GU Rows.laid_strconv_ErrRange)).push (GU Rows.laid_strconv_ErrSyntax)).modify 4 (nK Rows.laid_math_bits_deBruijn32tab)).modify 5 (nK Rows.laid_math_bits_deBruijn64tab)).modify 3 (nK Rows.laid_internal_strconv_uint64pow10)).modify 1 (nK Rows.laid_unicode_utf8_acceptRanges)).modify 7 (Gj ((World.holding Tryz.prog os ⟨#[],#[],[]⟩).heap.size+0))).modify 6 (Gj ((World.holding Tryz.prog os ⟨#[],#[],[]⟩).heap.size+1))).modify 0 (nK Rows.laid_unicode_utf8_first)) }
theorem E3 (os:Os):laidMet Tryz.prog Rows.literalReadsRow.laid ((dY os).forCall (fun _ _=>0) ⟨#[],#[.agg #[.int .i64 0,.int .i64 0,.int .i64 0,.string ⟨#[]⟩,.slice none 0 0,.slice none 0 0]],[]⟩).memory:=
 laidMet_of_run' 8 (by kernel_rfl) (by kernel_rfl)
theorem reads (os:Os){H:Type}(enc:TypeId×Value→H):∃ places,DataW.whole enc Tryz.prog ((dY os).forCall (fun _ _=>0) ⟨#[],#[.agg #[.int .i64 0,.int .i64 0,.int .i64 0,.string ⟨#[]⟩,.slice none 0 0,.slice none 0 0]],[]⟩).memory Tryz.f4.params.toList Rows.literalReadsSpec.vars false (#[.agg #[.int .i64 0,.int .i64 0,.int .i64 0,.string ⟨#[]⟩,.slice none 0 0,.slice none 0 0]]:Array Value).toList 8=some ([.agg [.lit (.int .i64 0),.lit (.int .i64 0),.lit (.int .i64 0),.lit (.string []),.nil,.nil]],[],places):=
 ⟨[],by kernel_rfl⟩
theorem Pk:Tryz.checked.prog.inits.idxOf? 4=none:=by kernel_rfl
theorem Pi (os:Os):World.variablesB Tryz.checked.prog ((dY os).forCall (fun _ _=>0) ⟨#[],#[.agg #[.int .i64 0,.int .i64 0,.int .i64 0,.string ⟨#[]⟩,.slice none 0 0,.slice none 0 0]],[]⟩)=true:=by kernel_rfl
theorem Pj (os:Os):List.take ((begin Tryz.checked.prog (fun _ _=>0) default).world.heap.size - Tryz.checked.prog.globals.size) (List.drop Tryz.checked.prog.globals.size ((dY os).forCall (fun _ _=>0) ⟨#[],#[.agg #[.int .i64 0,.int .i64 0,.int .i64 0,.string ⟨#[]⟩,.slice none 0 0,.slice none 0 0]],[]⟩).heap.toList)=List.drop Tryz.checked.prog.globals.size (begin Tryz.checked.prog (fun _ _=>0) default).world.heap.toList:=by kernel_rfl
theorem Ph (os:Os):Input.okWideB Tryz.checked.prog ((dY os).forCall (fun _ _=>0) ⟨#[],#[.agg #[.int .i64 0,.int .i64 0,.int .i64 0,.string ⟨#[]⟩,.slice none 0 0,.slice none 0 0]],[]⟩) 4 ⟨#[],#[.agg #[.int .i64 0,.int .i64 0,.int .i64 0,.string ⟨#[]⟩,.slice none 0 0,.slice none 0 0]],[]⟩=true:=by kernel_rfl
theorem MH (os:Os)(started:os.Started)(H:Type)(enc:TypeId×Value→H)(F:Stop.Interp) :
  ReturnsInHanded {} Tryz.checked os 4 .any ((OpenSpec.ofChange Rows.literalReadsSpec).preRow enc Tryz.prog Tryz.f4 Rows.literalReadsRow.domain false Rows.literalReadsRow.laid) (((OpenSpec.ofChange Rows.literalReadsSpec).at F).post enc Tryz.prog Tryz.f4 false true false false):=by
 obtain⟨places,hx⟩:=reads os enc
 refine returnsInHanded_of_row (C:=Tryz.checked) (s:=OpenSpec.ofChange Rows.literalReadsSpec) own started Pk Tryz.func4
  (witness_row_at (enc:=enc) (C:=Tryz.checked) false (dY os) #[.agg #[.int .i64 0,.int .i64 0,.int .i64 0,.string ⟨#[]⟩,.slice none 0 0,.slice none 0 0]] rfl (Pi os) (Pj os) (Ph os)
   (OpenSpec.preRow_of_cond 8 hx (by kernel_rfl) (fun k hk=>by cases hk) (by kernel_rfl) (E3 os))) ?_
 intro W base args ds gs before hval hW _ _ hsz hL _ _
 exact jt H enc W base args ds gs before hval hW hsz hL
end Go.Proofs.YtamoeblcphjbaaaGreatDoor.literalReadsDone
namespace Go.Proofs.YtamoeblcphjbaaaGreatDoor.literalReadsDone
open Go Go.Ab Go.RowKit Go.ChangeShapes Go.WideShapes Go.ChangeAt
set_option maxHeartbeats 100000000 in
theorem P9:joinedFacts Tryz.pinned.checked.prog 4 Tryz.f4 (OpenSpec.ofChange Rows.literalReadsSpec).bare Rows.literalReadsRow=true:=by
 unfold joinedFacts
 repeat' (with_reducible refine Bool.and_eq_true_iff.2 ⟨?_,?_⟩)
 all_goals as_aux_lemma=>kernel_rfl
end Go.Proofs.YtamoeblcphjbaaaGreatDoor.literalReadsDone
