/- A part. -/
import Derived.Stop.LaidErr
import Derived.WalkKit
import Derived.Lib.LaidTab
import Derived.SevenTiedAt
import Derived.Test.YtamoeblcphjbaaaGreatDoorTyLZ4d
import Derived.Test.YtamoeblcphjbaaaGreatDoorCards
import Derived.Test.YtamoeblcphjbaaaGreatDoorTie
set_option linter.unusedVariables false
set_option linter.unusedSimpArgs false
set_option maxHeartbeats 16000000
set_option maxRecDepth 100000
namespace Go.Proofs.YtamoeblcphjbaaaGreatDoor.literalTypesDone
open Go Go.Ab Go.RowKit Go.ChangeShapes Go.WideShapes Go.ChangeAt
theorem own:ownKnob Tryz.prog.godebug=none:=by kernel_rfl
theorem Oc:laidOutB Tryz.prog=true:=by kernel_rfl
theorem Uq {W:World}(h:laidMetH Tryz.prog Rows.literalTypesRow.laid W):∃ p,dd (ci 270 p) W (pO W):=by
 have h':laidMet Tryz.prog Rows.literalTypesRow.laid W:=h
 obtain⟨a,s,e1,e2,_⟩:=RR (((((h'.tail).tail).tail).tail).tail)
 exact EG (Go.Lib.laidMet.reads h' (n:= "unicode/utf8.first") (d:=Go.Lib.firstData) (by rw[show Go.Lib.firstData=(Rows.laid_unicode_utf8_first:DataW Unit) by kernel_rfl];exact List.Mem.tail _ (List.Mem.tail _ (List.Mem.tail _ (List.Mem.tail _ (List.Mem.tail _ (List.Mem.tail _ (List.Mem.head _))))))))
  (Go.Lib.laidMet.reads h' (n:= "unicode/utf8.acceptRanges") (d:=Go.Lib.acceptData) (by rw[show Go.Lib.acceptData=(Rows.laid_unicode_utf8_acceptRanges:DataW Unit) by kernel_rfl];exact List.Mem.tail _ (List.Mem.tail _ (List.Mem.tail _ (List.Mem.head _)))))
  (Go.Lib.laidMet.reads h' (n:= "internal/strconv.uint64pow10") (d:=(Go.Lib.tabData .u64 Go.Lib.pow10Tab)) (by rw[show (Go.Lib.tabData .u64 Go.Lib.pow10Tab)=(Rows.laid_internal_strconv_uint64pow10:DataW Unit) by kernel_rfl];exact List.Mem.tail _ (List.Mem.tail _ (List.Mem.head _))))
  (Go.Lib.laidMet.reads h' (n:= "math/bits.deBruijn64tab") (d:=(Go.Lib.tabData .u8 (Go.Lib.deBruijn64tab.map fun n:Nat=>(n:Int)))) (by rw[show (Go.Lib.tabData .u8 (Go.Lib.deBruijn64tab.map fun n:Nat=>(n:Int)))=(Rows.laid_math_bits_deBruijn64tab:DataW Unit) by kernel_rfl];exact List.Mem.tail _ (List.Mem.head _)))
  ⟨a,s,e1,e2⟩
theorem Un:Tryz.f11.params = #[48]:=by kernel_rfl
theorem ly (H:Type)(enc:TypeId×Value->H)(W:World)(base:Nat)(args:Array Value)(ds gs:List (DataW H))(before:List MemPlace)
  (hval:∀ (j:Nat) t v,Tryz.f11.params[j]? = some t->args[j]? = some v->Value.okWide Tryz.prog W .any base t v)
  (hW:DataW.Whole enc Tryz.prog Tryz.f11.params.toList Rows.literalTypesSpec.vars false W args.toList ds gs before) (hsz:(DataW.weightsEach Tryz.prog (Tryz.f11.params.toList++Rows.literalTypesSpec.plain.varTypes Tryz.prog) (ds++gs)).all (·<=reachBytes)=true) (hL:laidMetH Tryz.prog Rows.literalTypesRow.laid W) :
  Calls Tryz.prog 11 args W fun e W'=>∃ v,e = .returned v/\Rows.literalTypesSpec.post enc Tryz.prog Tryz.f11 false true false false W args v W':=by
 obtain⟨p,hp0⟩:=Uq hL
 refine I8 (ts:=[48,3,42,9,45,46,60,22,25,23,39,4]) (tb:=4) (G:=ci 270 p) rfl Oc (by decide +kernel) (by kernel_rfl) (by decide +kernel) (by kernel_rfl) (by kernel_rfl) ?_ hval hW hsz hp0 ?_
 ·intro ds hd
  rw[Un] at hd
  match ds,hd with
  | [d0],_=>rfl
 ·intro ps hp hT
  rw[Un] at hp hT
  match ps,hp with
  | [p0],_=>
    exact GP p p0 (hT 0 48 p0 rfl rfl)
def Ag:DataW Unit->List Value
 | .lit (.int k n)=>[Value.int k n]
 | .agg xs=>xs.map fun x=>match x with
   | .lit (.int k n)=>Value.int k n
   | _=>Go.undef
 | _=>[]
def D0:DataW Unit->Array Value
 | .agg xs=>(xs.flatMap Ag).toArray
 | _=>#[]
def qP (d:DataW Unit):Obj->Obj
 | .cells _ t frozen=>.cells (D0 d) t frozen
 | o=>o
def LH (d:DataW Unit):Obj:=
 match d with
 | .iface _ (.ptr (.agg [.lit (.string bs)]))=>.cells #[.string ⟨bs.toArray⟩] 272
 | _=>.cells #[] 272
def KY (k:Nat):Obj->Obj
 | .cells _ t frozen=>.cells #[.iface 270 (.pointer (some ⟨k,0,none⟩))] t frozen
 | o=>o
noncomputable def eT (os:Os):World:=
 { World.holding Tryz.prog os ⟨#[],#[],[]⟩ with heap:=((((((((((World.holding Tryz.prog os ⟨#[],#[],[]⟩).heap.push (LH Rows.laid_strconv_ErrRange)).push (LH Rows.laid_strconv_ErrSyntax)).modify 4 (qP Rows.laid_math_bits_deBruijn32tab)).modify 5 (qP Rows.laid_math_bits_deBruijn64tab)).modify 3 (qP Rows.laid_internal_strconv_uint64pow10)).modify 1 (qP Rows.laid_unicode_utf8_acceptRanges)).modify 7 (KY ((World.holding Tryz.prog os ⟨#[],#[],[]⟩).heap.size+0))).modify 6 (KY ((World.holding Tryz.prog os ⟨#[],#[],[]⟩).heap.size+1))).modify 0 (qP Rows.laid_unicode_utf8_first)) }
theorem I9 (os:Os):laidMet Tryz.prog Rows.literalTypesRow.laid ((eT os).forCall (fun _ _=>0) ⟨#[],#[.agg #[.int .i64 0,.int .i64 0,.int .i64 0,.int .i64 0,.slice none 0 0,.slice none 0 0,.slice none 0 0]],[]⟩).memory:=
 laidMet_of_run' 8 (by kernel_rfl) (by kernel_rfl)
theorem reads (os:Os){H:Type}(enc:TypeId×Value->H):∃ places,DataW.whole enc Tryz.prog ((eT os).forCall (fun _ _=>0) ⟨#[],#[.agg #[.int .i64 0,.int .i64 0,.int .i64 0,.int .i64 0,.slice none 0 0,.slice none 0 0,.slice none 0 0]],[]⟩).memory Tryz.f11.params.toList Rows.literalTypesSpec.vars false (#[.agg #[.int .i64 0,.int .i64 0,.int .i64 0,.int .i64 0,.slice none 0 0,.slice none 0 0,.slice none 0 0]]:Array Value).toList 8=some ([.agg [.lit (.int .i64 0),.lit (.int .i64 0),.lit (.int .i64 0),.lit (.int .i64 0),.nil,.nil,.nil]],[],places):=
 ⟨[],by kernel_rfl⟩
theorem TE:Tryz.checked.prog.inits.idxOf? 11=none:=by kernel_rfl
theorem TC (os:Os):World.variablesB Tryz.checked.prog ((eT os).forCall (fun _ _=>0) ⟨#[],#[.agg #[.int .i64 0,.int .i64 0,.int .i64 0,.int .i64 0,.slice none 0 0,.slice none 0 0,.slice none 0 0]],[]⟩)=true:=by kernel_rfl
theorem TD (os:Os):List.take ((begin Tryz.checked.prog (fun _ _=>0) default).world.heap.size - Tryz.checked.prog.globals.size) (List.drop Tryz.checked.prog.globals.size ((eT os).forCall (fun _ _=>0) ⟨#[],#[.agg #[.int .i64 0,.int .i64 0,.int .i64 0,.int .i64 0,.slice none 0 0,.slice none 0 0,.slice none 0 0]],[]⟩).heap.toList)=List.drop Tryz.checked.prog.globals.size (begin Tryz.checked.prog (fun _ _=>0) default).world.heap.toList:=by kernel_rfl
theorem TB (os:Os):Input.okWideB Tryz.checked.prog ((eT os).forCall (fun _ _=>0) ⟨#[],#[.agg #[.int .i64 0,.int .i64 0,.int .i64 0,.int .i64 0,.slice none 0 0,.slice none 0 0,.slice none 0 0]],[]⟩) 11 ⟨#[],#[.agg #[.int .i64 0,.int .i64 0,.int .i64 0,.int .i64 0,.slice none 0 0,.slice none 0 0,.slice none 0 0]],[]⟩=true:=by kernel_rfl
theorem Rx (os:Os)(started:os.Started)(H:Type)(enc:TypeId×Value->H)(F:Stop.Interp) :
  ReturnsInHanded {} Tryz.checked os 11 .any ((OpenSpec.ofChange Rows.literalTypesSpec).preRow enc Tryz.prog Tryz.f11 Rows.literalTypesRow.domain false Rows.literalTypesRow.laid) (((OpenSpec.ofChange Rows.literalTypesSpec).at F).post enc Tryz.prog Tryz.f11 false true false false):=by
 obtain⟨places,hx⟩:=reads os enc
 refine returnsInHanded_of_row (C:=Tryz.checked) (s:=OpenSpec.ofChange Rows.literalTypesSpec) own started TE Tryz.func11
  (witness_row_at (enc:=enc) (C:=Tryz.checked) false (eT os) #[.agg #[.int .i64 0,.int .i64 0,.int .i64 0,.int .i64 0,.slice none 0 0,.slice none 0 0,.slice none 0 0]] rfl (TC os) (TD os) (TB os)
   (OpenSpec.preRow_of_cond 8 hx (by kernel_rfl) (fun k hk=>by cases hk) (by kernel_rfl) (I9 os))) ?_
 intro W base args ds gs before hval hW _ _ hsz hL _ _
 exact ly H enc W base args ds gs before hval hW hsz hL
