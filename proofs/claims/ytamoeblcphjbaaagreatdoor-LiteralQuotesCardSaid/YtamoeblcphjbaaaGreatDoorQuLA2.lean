/- A part of the proof for LiteralQuotesCardSaid. -/
import Derived.Stop.LaidErr
import Derived.WalkKit
import Derived.Lib.LaidTab
import Derived.SevenTiedAt
import Derived.Test.YtamoeblcphjbaaaGreatDoorQuLK13
import Derived.Test.YtamoeblcphjbaaaGreatDoorCards
import Derived.Test.YtamoeblcphjbaaaGreatDoorTie
set_option maxRecDepth 100000
set_option linter.unusedVariables false
set_option linter.unusedSimpArgs false
namespace Go.Proofs.YtamoeblcphjbaaaGreatDoor.literalQuotesDone
open Go Go.Ab Go.RowKit Go.ChangeShapes Go.WideShapes Go.ChangeAt
theorem own:ownKnob Tryz.prog.godebug=none:=by kernel_rfl
theorem IZ:laidOutB Tryz.prog=true:=by kernel_rfl
theorem Pp {W:World}(h:laidMetH Tryz.prog Rows.literalQuotesRow.laid W):∃ p,bZ (di 270 p) W (lm W):=by
 have h':laidMet Tryz.prog Rows.literalQuotesRow.laid W:=h
 obtain⟨a,s,e1,e2,_⟩:=MO (((((h'.tail).tail).tail).tail).tail)
 exact As (Go.Lib.laidMet.reads h' (n:= "unicode/utf8.first") (d:=Go.Lib.firstData) (by rw[show Go.Lib.firstData=(Rows.laid_unicode_utf8_first:DataW Unit) by kernel_rfl];exact List.Mem.tail _ (List.Mem.tail _ (List.Mem.tail _ (List.Mem.tail _ (List.Mem.tail _ (List.Mem.tail _ (List.Mem.head _))))))))
  (Go.Lib.laidMet.reads h' (n:= "unicode/utf8.acceptRanges") (d:=Go.Lib.acceptData) (by rw[show Go.Lib.acceptData=(Rows.laid_unicode_utf8_acceptRanges:DataW Unit) by kernel_rfl];exact List.Mem.tail _ (List.Mem.tail _ (List.Mem.tail _ (List.Mem.head _)))))
  (Go.Lib.laidMet.reads h' (n:= "internal/strconv.uint64pow10") (d:=(Go.Lib.tabData .u64 Go.Lib.pow10Tab)) (by rw[show (Go.Lib.tabData .u64 Go.Lib.pow10Tab)=(Rows.laid_internal_strconv_uint64pow10:DataW Unit) by kernel_rfl];exact List.Mem.tail _ (List.Mem.tail _ (List.Mem.head _))))
  (Go.Lib.laidMet.reads h' (n:= "math/bits.deBruijn64tab") (d:=(Go.Lib.tabData .u8 (Go.Lib.deBruijn64tab.map fun n:Nat=>(n:Int)))) (by rw[show (Go.Lib.tabData .u8 (Go.Lib.deBruijn64tab.map fun n:Nat=>(n:Int)))=(Rows.laid_math_bits_deBruijn64tab:DataW Unit) by kernel_rfl];exact List.Mem.tail _ (List.Mem.head _)))
  ⟨a,s,e1,e2⟩
theorem Pn:Tryz.f8.params = #[9]:=by kernel_rfl
theorem iu (H:Type)(enc:TypeId×Value→H)(W:World)(base:Nat)(args:Array Value)(ds gs:List (DataW H))(before:List MemPlace)
  (hval:∀ (j:Nat) t v,Tryz.f8.params[j]? = some t→args[j]? = some v→Value.okWide Tryz.prog W .any base t v)
  (hW:DataW.Whole enc Tryz.prog Tryz.f8.params.toList Rows.literalQuotesSpec.vars false W args.toList ds gs before) (hsz:(DataW.weightsEach Tryz.prog (Tryz.f8.params.toList++Rows.literalQuotesSpec.plain.varTypes Tryz.prog) (ds++gs)).all (·≤reachBytes)=true) (hL:laidMetH Tryz.prog Rows.literalQuotesRow.laid W) :
  Calls Tryz.prog 8 args W fun e W'=>∃ v,e = .returned v∧Rows.literalQuotesSpec.post enc Tryz.prog Tryz.f8 false true false false W args v W':=by
 obtain⟨p,hp0⟩:=Pp hL
 refine EP (ts:=[9,4]) (tb:=4) (G:=di 270 p) rfl IZ (by decide +kernel) (by kernel_rfl) (by decide +kernel) (by kernel_rfl) (by kernel_rfl) ?_ hval hW hsz hp0 ?_
 ·intro ds hd
  rw[Pn] at hd
  match ds,hd with
  | [d0],_=>rfl
 ·intro ps hp hT
  rw[Pn] at hp hT
  match ps,hp with
  | [p0],_=>
    exact yx p p0 (hT 0 9 p0 rfl rfl)
def uP:DataW Unit→List Value
 | .lit (.int k n)=>[Value.int k n]
 | .agg xs=>xs.map fun x=>match x with
   | .lit (.int k n)=>Value.int k n
   | _=>Go.undef
 | _=>[]
def zI:DataW Unit→Array Value
 | .agg xs=>(xs.flatMap uP).toArray
 | _=>#[]
def mo (d:DataW Unit):Obj→Obj
 | .cells _ t frozen=>.cells (zI d) t frozen
 | o=>o
def GK (d:DataW Unit):Obj:=
 match d with
 | .iface _ (.ptr (.agg [.lit (.string bs)]))=>.cells #[.string ⟨bs.toArray⟩] 272
 | _=>.cells #[] 272
def Gb (k:Nat):Obj→Obj
 | .cells _ t frozen=>.cells #[.iface 270 (.pointer (some ⟨k,0,none⟩))] t frozen
 | o=>o
noncomputable def dA (os:Os):World:=
 { World.holding Tryz.prog os ⟨#[],#[],[]⟩ with heap:=((((((((((World.holding Tryz.prog os ⟨#[],#[],[]⟩).heap.push (GK Rows.laid_strconv_ErrRange)).push (GK Rows.laid_strconv_ErrSyntax)).modify 4 (mo Rows.laid_math_bits_deBruijn32tab)).modify 5 (mo Rows.laid_math_bits_deBruijn64tab)).modify 3 (mo Rows.laid_internal_strconv_uint64pow10)).modify 1 (mo Rows.laid_unicode_utf8_acceptRanges)).modify 7 (Gb ((World.holding Tryz.prog os ⟨#[],#[],[]⟩).heap.size+0))).modify 6 (Gb ((World.holding Tryz.prog os ⟨#[],#[],[]⟩).heap.size+1))).modify 0 (mo Rows.laid_unicode_utf8_first)) }
theorem EQ (os:Os):laidMet Tryz.prog Rows.literalQuotesRow.laid ((dA os).forCall (fun _ _=>0) ⟨#[],#[.string ⟨#[]⟩],[]⟩).memory:=
 laidMet_of_run' 8 (by kernel_rfl) (by kernel_rfl)
theorem reads (os:Os){H:Type}(enc:TypeId×Value→H):∃ places,DataW.whole enc Tryz.prog ((dA os).forCall (fun _ _=>0) ⟨#[],#[.string ⟨#[]⟩],[]⟩).memory Tryz.f8.params.toList Rows.literalQuotesSpec.vars false (#[.string ⟨#[]⟩]:Array Value).toList 8=some ([.lit (.string [])],[],places):=
 ⟨[],by kernel_rfl⟩
theorem OK:Tryz.checked.prog.inits.idxOf? 8=none:=by kernel_rfl
theorem OI (os:Os):World.variablesB Tryz.checked.prog ((dA os).forCall (fun _ _=>0) ⟨#[],#[.string ⟨#[]⟩],[]⟩)=true:=by kernel_rfl
theorem OJ (os:Os):List.take ((begin Tryz.checked.prog (fun _ _=>0) default).world.heap.size - Tryz.checked.prog.globals.size) (List.drop Tryz.checked.prog.globals.size ((dA os).forCall (fun _ _=>0) ⟨#[],#[.string ⟨#[]⟩],[]⟩).heap.toList)=List.drop Tryz.checked.prog.globals.size (begin Tryz.checked.prog (fun _ _=>0) default).world.heap.toList:=by kernel_rfl
theorem OH (os:Os):Input.okWideB Tryz.checked.prog ((dA os).forCall (fun _ _=>0) ⟨#[],#[.string ⟨#[]⟩],[]⟩) 8 ⟨#[],#[.string ⟨#[]⟩],[]⟩=true:=by kernel_rfl
theorem Mx (os:Os)(started:os.Started)(H:Type)(enc:TypeId×Value→H)(F:Stop.Interp) :
  ReturnsInHanded {} Tryz.checked os 8 .any ((OpenSpec.ofChange Rows.literalQuotesSpec).preRow enc Tryz.prog Tryz.f8 Rows.literalQuotesRow.domain false Rows.literalQuotesRow.laid) (((OpenSpec.ofChange Rows.literalQuotesSpec).at F).post enc Tryz.prog Tryz.f8 false true false false):=by
 obtain⟨places,hx⟩:=reads os enc
 refine returnsInHanded_of_row (C:=Tryz.checked) (s:=OpenSpec.ofChange Rows.literalQuotesSpec) own started OK Tryz.func8
  (witness_row_at (enc:=enc) (C:=Tryz.checked) false (dA os) #[.string ⟨#[]⟩] rfl (OI os) (OJ os) (OH os)
   (OpenSpec.preRow_of_cond 8 hx (by kernel_rfl) (fun k hk=>by cases hk) (by kernel_rfl) (EQ os))) ?_
 intro W base args ds gs before hval hW _ _ hsz hL _ _
 exact iu H enc W base args ds gs before hval hW hsz hL
end Go.Proofs.YtamoeblcphjbaaaGreatDoor.literalQuotesDone
set_option maxRecDepth 100000
set_option linter.unusedVariables false
set_option linter.unusedSimpArgs false
namespace Go.Proofs.YtamoeblcphjbaaaGreatDoor.literalQuotesDone
open Go Go.Ab Go.RowKit Go.ChangeShapes Go.WideShapes Go.ChangeAt
set_option maxHeartbeats 100000000 in
theorem Pu:joinedFacts Tryz.pinned.checked.prog 8 Tryz.f8 (OpenSpec.ofChange Rows.literalQuotesSpec).bare Rows.literalQuotesRow=true:=by
 unfold joinedFacts
 repeat' (with_reducible refine Bool.and_eq_true_iff.2 ⟨?_,?_⟩)
 all_goals as_aux_lemma=>kernel_rfl
end Go.Proofs.YtamoeblcphjbaaaGreatDoor.literalQuotesDone
