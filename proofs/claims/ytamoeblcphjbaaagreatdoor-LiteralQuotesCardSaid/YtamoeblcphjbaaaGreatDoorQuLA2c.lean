/- LiteralQuotes: Quote and QuoteBytes return the quoted text of any bytes, at most 300, and Parse reads valid UTF-8 and bytes back, for every text, without conditions. -/
import Derived.Stop.LaidErr
import Derived.WalkKit
import Derived.Lib.LaidTab
import Derived.SevenTiedAt
import Derived.Test.YtamoeblcphjbaaaGreatDoorQuLA2
import Derived.Test.YtamoeblcphjbaaaGreatDoorQuLA2g
import Derived.Test.YtamoeblcphjbaaaGreatDoorQuLK13
import Derived.Test.YtamoeblcphjbaaaGreatDoorCards
import Derived.Test.YtamoeblcphjbaaaGreatDoorTie
set_option maxRecDepth 100000
set_option linter.unusedVariables false
set_option linter.unusedSimpArgs false
namespace Go.Proofs.YtamoeblcphjbaaaGreatDoor.literalQuotesDone
open Go Go.Ab Go.RowKit Go.ChangeShapes Go.WideShapes Go.ChangeAt
theorem Hw:Rows.LiteralQuotesSaid:=
 OpenClaim.holds_of_cond 8 Tryz.f8 rfl rfl rfl rfl rfl rfl rfl ⟨rfl,rfl,rfl,rfl,rfl⟩ rfl rfl rfl rfl rfl (by kernel_rfl) Tryz.func8 Pu
  (of_decide_eq_true (by kernel_rfl)) (by unfold Func.isWrapper;first | (rw[if_pos (by decide +kernel)];kernel_rfl) | (rw[if_neg (by decide +kernel)];exact⟨rfl,rfl⟩))
  (fun os started H enc _ F=>by rw[OpenClaim.pre_eq_preRow];exact Mx os started H enc F)
theorem card:Rows.LiteralQuotesCardSaid:=
 Claim7.holds_tied_plain_at .later [] [.data,.data,.data,.data,.sentinel,.sentinel,.pinned] true (true, "7636b584a2e9c8b9f029b978eb79aa6cf462f64580768fb04d120eb6e3b97ae5") true
  Hw (fun _ h=>by cases h) cWf (fun _ h=>by cases h) literalQuotes_row_tie rfl ⟨rfl,rfl⟩ PL rfl
  (fun f fn hf hfn=>by
   obtain rfl:f=8:=Option.some.inj ((show Tryz.prog.funcNamed "manifold/manifoldlaw13.LiteralQuotes" = some 8 by kernel_rfl).symm.trans hf) |>.symm
   obtain rfl:fn=Tryz.f8:=(Option.some.inj (Tryz.func8.symm.trans hfn)).symm
   refine⟨Na,fun j t ht=>?_⟩
   rw[Pn] at ht
   have h3:t∈[9]:=by
    have:=List.mem_of_getElem? (show ([9]:List TypeId)[j]? = some t by simpa using ht)
    exact this
   have hall:∀ t∈([9]:List TypeId),Tryz.prog.wantsStandIn t=false:=by
    have:=M9
    intro t h
    have h1:=List.all_eq_true.1 this t h
    simpa using h1
   exact hall t h3)
  PM
end Go.Proofs.YtamoeblcphjbaaaGreatDoor.literalQuotesDone
