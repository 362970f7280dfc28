/- A part of the proof. -/
import Derived.Stop.LaidErr
import Derived.WalkKit
import Derived.Lib.LaidTab
import Derived.SevenTiedAt
import Derived.Test.YtbaaokocnegdoaaGreatDoorAgVZm
import Derived.Test.YtbaaokocnegdoaaGreatDoorCards
import Derived.Test.YtbaaokocnegdoaaGreatDoorTie
set_option linter.unusedVariables false
set_option linter.unusedSimpArgs false
set_option maxHeartbeats 16000000
set_option maxRecDepth 100000
namespace Go.Proofs.YtbaaokocnegdoaaGreatDoor.delimitedAgainDone
open Go Go.Ab Go.RowKit Go.ChangeShapes Go.WideShapes Go.ChangeAt
theorem own:ownKnob Tryz.prog.godebug=none:=by kernel_rfl
theorem MK:laidOutB Tryz.prog=true:=by kernel_rfl
theorem Sn {W:World}(hS:W.ShapedOpen Tryz.prog)(h:laidMetH Tryz.prog Rows.delimitedAgainRow.laid W):∃ m p,bt (jc m 276 p) W (ll W):=by
 have h':laidMet Tryz.prog Rows.delimitedAgainRow.laid W:=h
 obtain⟨a,s,e1,e2,_⟩:=P1 (((((h'.tail).tail).tail).tail).tail)
 exact DS hS (Go.Lib.laidMet.reads h' (n:= "unicode/utf8.first") (d:=Go.Lib.firstData) (by rw[show Go.Lib.firstData=(Rows.laid_unicode_utf8_first:DataW Unit) by kernel_rfl];exact List.Mem.tail _ (List.Mem.tail _ (List.Mem.tail _ (List.Mem.tail _ (List.Mem.tail _ (List.Mem.tail _ (List.Mem.head _))))))))
  (Go.Lib.laidMet.reads h' (n:= "unicode/utf8.acceptRanges") (d:=Go.Lib.acceptData) (by rw[show Go.Lib.acceptData=(Rows.laid_unicode_utf8_acceptRanges:DataW Unit) by kernel_rfl];exact List.Mem.tail _ (List.Mem.tail _ (List.Mem.tail _ (List.Mem.head _)))))
  (Go.Lib.laidMet.reads h' (n:= "internal/strconv.uint64pow10") (d:=(Go.Lib.tabData .u64 Go.Lib.pow10Tab)) (by rw[show (Go.Lib.tabData .u64 Go.Lib.pow10Tab)=(Rows.laid_internal_strconv_uint64pow10:DataW Unit) by kernel_rfl];exact List.Mem.tail _ (List.Mem.tail _ (List.Mem.head _))))
  ⟨a,s,e1,e2⟩
theorem Sk:Tryz.f7.params = #[26,9,3]:=by kernel_rfl
theorem fD (H:Type)(enc:TypeId×Value->H)(W:World)(base:Nat)(args:Array Value)(ds gs:List (DataW H))(before:List MemPlace)
  (hval:∀ (j:Nat) t v,Tryz.f7.params[j]? = some t->args[j]? = some v->Value.okWide Tryz.prog W .any base t v)
  (hW:DataW.Whole enc Tryz.prog Tryz.f7.params.toList Rows.delimitedAgainSpec.vars false W args.toList ds gs before) (hsz:(DataW.weightsEach Tryz.prog (Tryz.f7.params.toList++Rows.delimitedAgainSpec.plain.varTypes Tryz.prog) (ds++gs)).all (·<=reachBytes)=true) (hL:laidMetH Tryz.prog Rows.delimitedAgainRow.laid W) (hS:W.ShapedOpen Tryz.prog) :
  Calls Tryz.prog 7 args W fun e W'=>∃ v,e = .returned v/\Rows.delimitedAgainSpec.post enc Tryz.prog Tryz.f7 false true false false W args v W':=by
 obtain⟨m,p,hp0⟩:=Sn hS hL
 refine H9 (ts:=[26,3,22,9,23,24,98,28,31,29,83,4]) (tb:=4) (G:=jc m 276 p) rfl MK (by decide +kernel) (by kernel_rfl) (by decide +kernel) (by kernel_rfl) (by kernel_rfl) ?_ hval hW hsz hp0 ?_
 ·intro ds hd
  rw[Sk] at hd
  match ds,hd with
  | [d0,d1,d2],_=>rfl
 ·intro ps hp hT
  rw[Sk] at hp hT
  match ps,hp with
  | [p0,p1,p2],_=>
    exact Ff m p p0 p1 p2 (hT 0 26 p0 rfl rfl) (hT 1 9 p1 rfl rfl) (hT 2 3 p2 rfl rfl)
def yx:DataW Unit->List Value
 | .lit (.int k n)=>[Value.int k n]
 | .agg xs=>xs.map fun x=>match x with
   | .lit (.int k n)=>Value.int k n
   | _=>Go.undef
 | _=>[]
def Dq:DataW Unit->Array Value
 | .agg xs=>(xs.flatMap yx).toArray
 | _=>#[]
def pd (d:DataW Unit):Obj->Obj
 | .cells _ t frozen=>.cells (Dq d) t frozen
 | o=>o
def Km (d:DataW Unit):Obj:=
 match d with
 | .iface _ (.ptr (.agg [.lit (.string bs)]))=>.cells #[.string ⟨bs.toArray⟩] 278
 | _=>.cells #[] 278
def JR (k:Nat):Obj->Obj
 | .cells _ t frozen=>.cells #[.iface 276 (.pointer (some ⟨k,0,none⟩))] t frozen
 | o=>o
noncomputable def dU (os:Os):World:=
 { World.holding Tryz.prog os ⟨#[],#[],[]⟩ with heap:=((((((((((World.holding Tryz.prog os ⟨#[],#[],[]⟩).heap.push (Km Rows.laid_strconv_ErrRange)).push (Km Rows.laid_strconv_ErrSyntax)).modify 6 (pd Rows.laid_math_bits_deBruijn32tab)).modify 7 (pd Rows.laid_math_bits_deBruijn64tab)).modify 5 (pd Rows.laid_internal_strconv_uint64pow10)).modify 4 (pd Rows.laid_unicode_utf8_acceptRanges)).modify 2 (JR ((World.holding Tryz.prog os ⟨#[],#[],[]⟩).heap.size+0))).modify 1 (JR ((World.holding Tryz.prog os ⟨#[],#[],[]⟩).heap.size+1))).modify 3 (pd Rows.laid_unicode_utf8_first)) }
theorem Ia (os:Os):laidMet Tryz.prog Rows.delimitedAgainRow.laid ((dU os).forCall (fun _ _=>0) ⟨#[],#[.agg #[.int .i64 0,.int .i64 0,.int .i64 0,.int .i64 0,.slice none 0 0,.slice none 0 0,.slice none 0 0],.string ⟨#[]⟩,.int .i64 0],[]⟩).memory:=
 laidMet_of_run' 8 (by kernel_rfl) (by kernel_rfl)
theorem reads (os:Os){H:Type}(enc:TypeId×Value->H):∃ places,DataW.whole enc Tryz.prog ((dU os).forCall (fun _ _=>0) ⟨#[],#[.agg #[.int .i64 0,.int .i64 0,.int .i64 0,.int .i64 0,.slice none 0 0,.slice none 0 0,.slice none 0 0],.string ⟨#[]⟩,.int .i64 0],[]⟩).memory Tryz.f7.params.toList Rows.delimitedAgainSpec.vars false (#[.agg #[.int .i64 0,.int .i64 0,.int .i64 0,.int .i64 0,.slice none 0 0,.slice none 0 0,.slice none 0 0],.string ⟨#[]⟩,.int .i64 0]:Array Value).toList 8=some ([.agg [.lit (.int .i64 0),.lit (.int .i64 0),.lit (.int .i64 0),.lit (.int .i64 0),.nil,.nil,.nil],.lit (.string []),.lit (.int .i64 0)],[],places):=
 ⟨[],by kernel_rfl⟩
theorem RO:Tryz.checked.prog.inits.idxOf? 7=none:=by kernel_rfl
theorem RM (os:Os):World.variablesB Tryz.checked.prog ((dU os).forCall (fun _ _=>0) ⟨#[],#[.agg #[.int .i64 0,.int .i64 0,.int .i64 0,.int .i64 0,.slice none 0 0,.slice none 0 0,.slice none 0 0],.string ⟨#[]⟩,.int .i64 0],[]⟩)=true:=by kernel_rfl
theorem RN (os:Os):List.take ((begin Tryz.checked.prog (fun _ _=>0) default).world.heap.size - Tryz.checked.prog.globals.size) (List.drop Tryz.checked.prog.globals.size ((dU os).forCall (fun _ _=>0) ⟨#[],#[.agg #[.int .i64 0,.int .i64 0,.int .i64 0,.int .i64 0,.slice none 0 0,.slice none 0 0,.slice none 0 0],.string ⟨#[]⟩,.int .i64 0],[]⟩).heap.toList)=List.drop Tryz.checked.prog.globals.size (begin Tryz.checked.prog (fun _ _=>0) default).world.heap.toList:=by kernel_rfl
theorem RL (os:Os):Input.okWideB Tryz.checked.prog ((dU os).forCall (fun _ _=>0) ⟨#[],#[.agg #[.int .i64 0,.int .i64 0,.int .i64 0,.int .i64 0,.slice none 0 0,.slice none 0 0,.slice none 0 0],.string ⟨#[]⟩,.int .i64 0],[]⟩) 7 ⟨#[],#[.agg #[.int .i64 0,.int .i64 0,.int .i64 0,.int .i64 0,.slice none 0 0,.slice none 0 0,.slice none 0 0],.string ⟨#[]⟩,.int .i64 0],[]⟩=true:=by kernel_rfl
theorem PH (os:Os)(started:os.Started)(H:Type)(enc:TypeId×Value->H)(F:Stop.Interp) :
  ReturnsInHanded {} Tryz.checked os 7 .any ((OpenSpec.ofChange Rows.delimitedAgainSpec).preRow enc Tryz.prog Tryz.f7 Rows.delimitedAgainRow.domain false Rows.delimitedAgainRow.laid) (((OpenSpec.ofChange Rows.delimitedAgainSpec).at F).post enc Tryz.prog Tryz.f7 false true false false):=by
 obtain⟨places,hx⟩:=reads os enc
 refine returnsInHanded_of_row (C:=Tryz.checked) (s:=OpenSpec.ofChange Rows.delimitedAgainSpec) own started RO Tryz.func7
  (witness_row_at (enc:=enc) (C:=Tryz.checked) false (dU os) #[.agg #[.int .i64 0,.int .i64 0,.int .i64 0,.int .i64 0,.slice none 0 0,.slice none 0 0,.slice none 0 0],.string ⟨#[]⟩,.int .i64 0] rfl (RM os) (RN os) (RL os)
   (OpenSpec.preRow_of_cond 8 hx (by kernel_rfl) (fun k hk=>by cases hk) (by kernel_rfl) (Ia os))) ?_
 intro W base args ds gs before hval hW _ _ hsz hL hS _
 exact fD H enc W base args ds gs before hval hW hsz hL hS
theorem Sv:joinedFacts Tryz.pinned.checked.prog 7 Tryz.f7 (OpenSpec.ofChange Rows.delimitedAgainSpec).bare Rows.delimitedAgainRow=true:=by
 unfold joinedFacts
 repeat' (with_reducible refine Bool.and_eq_true_iff.2 ⟨?_,?_⟩)
 all_goals as_aux_lemma=>kernel_rfl
end Go.Proofs.YtbaaokocnegdoaaGreatDoor.delimitedAgainDone
