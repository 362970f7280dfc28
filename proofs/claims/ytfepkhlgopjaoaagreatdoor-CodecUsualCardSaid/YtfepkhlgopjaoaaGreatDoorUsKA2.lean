/- A part of the proof for CodecUsualCardSaid. -/
import Derived.Stop.LaidErr
import Derived.WalkKit
import Derived.Lib.LaidTab
import Derived.SevenTiedAt
import Derived.Test.YtfepkhlgopjaoaaGreatDoorUsKM8
import Derived.Test.YtfepkhlgopjaoaaGreatDoorCards
import Derived.Test.YtfepkhlgopjaoaaGreatDoorTie
set_option linter.unusedVariables false
set_option linter.unusedSimpArgs false
set_option maxRecDepth 100000
namespace Go.Proofs.YtfepkhlgopjaoaaGreatDoor.codecUsualDone
open Go Go.Ab Go.RowKit Go.ChangeShapes Go.WideShapes Go.ChangeAt
theorem own:ownKnob Tryz.prog.godebug=none:=by kernel_rfl
theorem Gz:laidOutB Tryz.prog=true:=by kernel_rfl
theorem MJ {W:World}(h:laidMetH Tryz.prog Rows.codecUsualRow.laid W):bZ az W (lx W):=by
 have h':laidMet Tryz.prog Rows.codecUsualRow.laid W:=h
 exact CB (Go.Lib.laidMet.reads h' (n:= "unicode/utf8.first") (d:=Go.Lib.firstData) (by rw[show Go.Lib.firstData=(Rows.laid_unicode_utf8_first:DataW Unit) by kernel_rfl];exact List.Mem.tail _ (List.Mem.tail _ (List.Mem.tail _ (List.Mem.tail _ (List.Mem.head _))))))
  (Go.Lib.laidMet.reads h' (n:= "unicode/utf8.acceptRanges") (d:=Go.Lib.acceptData) (by rw[show Go.Lib.acceptData=(Rows.laid_unicode_utf8_acceptRanges:DataW Unit) by kernel_rfl];exact List.Mem.tail _ (List.Mem.tail _ (List.Mem.tail _ (List.Mem.head _)))))
  (Go.Lib.laidMet.reads h' (n:= "internal/strconv.uint64pow10") (d:=(Go.Lib.tabData .u64 Go.Lib.pow10Tab)) (by rw[show (Go.Lib.tabData .u64 Go.Lib.pow10Tab)=(Rows.laid_internal_strconv_uint64pow10:DataW Unit) by kernel_rfl];exact List.Mem.tail _ (List.Mem.tail _ (List.Mem.head _))))
theorem MI:Tryz.f8.params = #[3,31]:=by kernel_rfl
theorem pl (H:Type)(enc:TypeId×Value→H)(W:World)(base:Nat)(args:Array Value)(ds gs:List (DataW H))(before:List MemPlace)
  (hval:∀ (j:Nat) t v,Tryz.f8.params[j]? = some t→args[j]? = some v→Value.okWide Tryz.prog W .any base t v)
  (hW:DataW.Whole enc Tryz.prog Tryz.f8.params.toList Rows.codecUsualSpec.vars false W args.toList ds gs before) (hsz:(DataW.weightsEach Tryz.prog (Tryz.f8.params.toList++Rows.codecUsualSpec.plain.varTypes Tryz.prog) (ds++gs)).all (·≤reachBytes)=true) (hL:laidMetH Tryz.prog Rows.codecUsualRow.laid W) :
  Calls Tryz.prog 8 args W fun e W'=>∃ v,e = .returned v∧Rows.codecUsualSpec.post enc Tryz.prog Tryz.f8 false true false false W args v W':=by
 refine Cc (ts:=[3,31,9,29,25,26,27,89,37,40,38,97,4]) (tb:=4) (G:=az) rfl Gz (by decide +kernel) (by kernel_rfl) (by decide +kernel) (by kernel_rfl) (by kernel_rfl) ?_ hval hW hsz (MJ hL) ?_
 ·intro ds hd
  rw[MI] at hd
  match ds,hd with
  | [d0,d1],_=>rfl
 ·intro ps hp hT
  rw[MI] at hp hT
  match ps,hp with
  | [p0,p1],_=>
    exact Aa p0 p1 (hT 0 3 p0 rfl rfl) (hT 1 31 p1 rfl rfl)
def rI:DataW Unit→List Value
 | .lit (.int k n)=>[Value.int k n]
 | .agg xs=>xs.map fun x=>match x with
   | .lit (.int k n)=>Value.int k n
   | _=>Go.undef
 | _=>[]
def wH:DataW Unit→Array Value
 | .agg xs=>(xs.flatMap rI).toArray
 | _=>#[]
def kq (d:DataW Unit):Obj→Obj
 | .cells _ t frozen=>.cells (wH d) t frozen
 | o=>o
noncomputable def cu (os:Os):World:=
 { World.holding Tryz.prog os ⟨#[],#[],[]⟩ with heap:=((((((World.holding Tryz.prog os ⟨#[],#[],[]⟩).heap.modify 6 (kq Rows.laid_math_bits_deBruijn32tab)).modify 7 (kq Rows.laid_math_bits_deBruijn64tab)).modify 3 (kq Rows.laid_internal_strconv_uint64pow10)).modify 2 (kq Rows.laid_unicode_utf8_acceptRanges)).modify 1 (kq Rows.laid_unicode_utf8_first)) }
theorem Cd (os:Os):laidMet Tryz.prog Rows.codecUsualRow.laid ((cu os).forCall (fun _ _=>0) ⟨#[],#[.int .i64 0,.agg #[.string ⟨#[]⟩,.int .i64 0,.int .i64 0,.int .i64 0,.int .i64 0,.int .i64 0,.slice none 0 0,.slice none 0 0,.slice none 0 0]],[]⟩).memory:=
 laidMet_of_run' 8 (by kernel_rfl) (by kernel_rfl)
theorem reads (os:Os){H:Type}(enc:TypeId×Value→H):∃ places,DataW.whole enc Tryz.prog ((cu os).forCall (fun _ _=>0) ⟨#[],#[.int .i64 0,.agg #[.string ⟨#[]⟩,.int .i64 0,.int .i64 0,.int .i64 0,.int .i64 0,.int .i64 0,.slice none 0 0,.slice none 0 0,.slice none 0 0]],[]⟩).memory Tryz.f8.params.toList Rows.codecUsualSpec.vars false (#[.int .i64 0,.agg #[.string ⟨#[]⟩,.int .i64 0,.int .i64 0,.int .i64 0,.int .i64 0,.int .i64 0,.slice none 0 0,.slice none 0 0,.slice none 0 0]]:Array Value).toList 8=some ([.lit (.int .i64 0),.agg [.lit (.string []),.lit (.int .i64 0),.agg [.lit (.int .i64 0),.lit (.int .i64 0),.lit (.int .i64 0),.lit (.int .i64 0),.nil,.nil,.nil]]],[],places):=
 ⟨[],by kernel_rfl⟩
theorem Mc:Tryz.checked.prog.inits.idxOf? 8=none:=by kernel_rfl
theorem Ma (os:Os):World.variablesB Tryz.checked.prog ((cu os).forCall (fun _ _=>0) ⟨#[],#[.int .i64 0,.agg #[.string ⟨#[]⟩,.int .i64 0,.int .i64 0,.int .i64 0,.int .i64 0,.int .i64 0,.slice none 0 0,.slice none 0 0,.slice none 0 0]],[]⟩)=true:=by kernel_rfl
theorem Mb (os:Os):List.take ((begin Tryz.checked.prog (fun _ _=>0) default).world.heap.size - Tryz.checked.prog.globals.size) (List.drop Tryz.checked.prog.globals.size ((cu os).forCall (fun _ _=>0) ⟨#[],#[.int .i64 0,.agg #[.string ⟨#[]⟩,.int .i64 0,.int .i64 0,.int .i64 0,.int .i64 0,.int .i64 0,.slice none 0 0,.slice none 0 0,.slice none 0 0]],[]⟩).heap.toList)=List.drop Tryz.checked.prog.globals.size (begin Tryz.checked.prog (fun _ _=>0) default).world.heap.toList:=by kernel_rfl
theorem L9 (os:Os):Input.okWideB Tryz.checked.prog ((cu os).forCall (fun _ _=>0) ⟨#[],#[.int .i64 0,.agg #[.string ⟨#[]⟩,.int .i64 0,.int .i64 0,.int .i64 0,.int .i64 0,.int .i64 0,.slice none 0 0,.slice none 0 0,.slice none 0 0]],[]⟩) 8 ⟨#[],#[.int .i64 0,.agg #[.string ⟨#[]⟩,.int .i64 0,.int .i64 0,.int .i64 0,.int .i64 0,.int .i64 0,.slice none 0 0,.slice none 0 0,.slice none 0 0]],[]⟩=true:=by kernel_rfl
theorem JM (os:Os)(started:os.Started)(H:Type)(enc:TypeId×Value→H)(F:Stop.Interp) :
  ReturnsInHanded {} Tryz.checked os 8 .any ((OpenSpec.ofChange Rows.codecUsualSpec).preRow enc Tryz.prog Tryz.f8 Rows.codecUsualRow.domain false Rows.codecUsualRow.laid) (((OpenSpec.ofChange Rows.codecUsualSpec).at F).post enc Tryz.prog Tryz.f8 false true false false):=by
 obtain⟨places,hx⟩:=reads os enc
 refine returnsInHanded_of_row (C:=Tryz.checked) (s:=OpenSpec.ofChange Rows.codecUsualSpec) own started Mc Tryz.func8
  (witness_row_at (enc:=enc) (C:=Tryz.checked) false (cu os) #[.int .i64 0,.agg #[.string ⟨#[]⟩,.int .i64 0,.int .i64 0,.int .i64 0,.int .i64 0,.int .i64 0,.slice none 0 0,.slice none 0 0,.slice none 0 0]] rfl (Ma os) (Mb os) (L9 os)
   (OpenSpec.preRow_of_cond 8 hx (by kernel_rfl) (fun k hk=>by cases hk) (by kernel_rfl) (Cd os))) ?_
 intro W base args ds gs before hval hW _ _ hsz hL _ _
 exact pl H enc W base args ds gs before hval hW hsz hL
end Go.Proofs.YtfepkhlgopjaoaaGreatDoor.codecUsualDone
namespace Go.Proofs.YtfepkhlgopjaoaaGreatDoor.codecUsualDone
open Go Go.Ab Go.RowKit Go.ChangeShapes Go.WideShapes Go.ChangeAt
set_option maxHeartbeats 100000000 in
theorem MO:joinedFacts Tryz.pinned.checked.prog 8 Tryz.f8 (OpenSpec.ofChange Rows.codecUsualSpec).bare Rows.codecUsualRow=true:=by
 unfold joinedFacts
 repeat' (with_reducible refine Bool.and_eq_true_iff.2 ⟨?_,?_⟩)
 all_goals as_aux_lemma=>kernel_rfl
end Go.Proofs.YtfepkhlgopjaoaaGreatDoor.codecUsualDone
