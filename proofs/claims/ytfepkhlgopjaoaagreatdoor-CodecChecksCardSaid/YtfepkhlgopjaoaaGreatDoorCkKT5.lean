/- A part of the proof for CodecChecksCardSaid. -/
import Derived.Test.YtfepkhlgopjaoaaGreatDoorCkKSh
import Derived.Test.YtfepkhlgopjaoaaGreatDoorCkCore6
import Derived.Stop.LaidErr
import Derived.WalkKit
import Derived.Lib.LaidTab
import Derived.SevenTiedAt
import Derived.Test.YtfepkhlgopjaoaaGreatDoorCkKM5
import Derived.Test.YtfepkhlgopjaoaaGreatDoorCards
import Derived.Test.YtfepkhlgopjaoaaGreatDoorTie
set_option linter.unusedVariables false
set_option linter.unusedSimpArgs false
set_option maxRecDepth 100000
namespace Go.Proofs.YtfepkhlgopjaoaaGreatDoor
open Go Go.Ab Go.Lib Go.Proofs
theorem u8X:U8Extra Tryz.prog Tryz.lays196_ren:=⟨by kernel_rfl,by kernel_rfl,by kernel_rfl,by kernel_rfl,by kernel_rfl,by kernel_rfl,by kernel_rfl⟩
theorem Ce {W:World}(h1:VarReads Tryz.prog W "unicode/utf8.first" firstData) (h2:VarReads Tryz.prog W "unicode/utf8.acceptRanges" acceptData)
  (h3:VarReads Tryz.prog W "internal/strconv.uint64pow10" (tabData .u64 pow10Tab)):bX aA W (lc W):=by
 have hu:=utf8Tabs_of_readsT (U8Types.of196 Tryz.lays196) u8X h1 h2
 refine wM fun g hg=>?_
 unfold aA at hg ⊢
 by_cases e3:g=3
 ·subst e3
  exact pC (t:=364) (e:=252) (m:=20) h3 (by kernel_rfl) (by kernel_rfl) (by kernel_rfl) (by kernel_rfl) (by kernel_rfl) (by kernel_rfl) (by kernel_rfl)
 rw[if_neg e3] at hg ⊢
 by_cases e1:g=1
 ·subst e1
  rw[if_pos rfl] at hg ⊢
  refine jg (t:=311) (e:=5) (m:=256) h1 (by kernel_rfl) (by kernel_rfl) (by kernel_rfl) (by kernel_rfl) fun o p hp=>?_
  rw[Lj,List.getElem?_map,Option.map_eq_some_iff] at hp
  obtain⟨c,hc,rfl⟩:=hp
  obtain⟨hlt,hcc⟩:=List.getElem?_eq_some_iff.1 hc
  simp at hlt hcc
  subst hcc
  exact⟨_,_,rfl,hu.1 o hlt⟩
 rw[if_neg e1] at hg ⊢
 by_cases e2:g=2
 ·subst e2
  rw[if_pos rfl] at hg ⊢
  refine jg (t:=314) (e:=313) (m:=16) h2 (by kernel_rfl) (by kernel_rfl) (by kernel_rfl) (by kernel_rfl) fun o p hp=>?_
  rw[HR,List.getElem?_map,Option.map_eq_some_iff] at hp
  obtain⟨c,hc,rfl⟩:=hp
  obtain⟨hlt,hcc⟩:=List.getElem?_eq_some_iff.1 hc
  simp at hlt hcc
  subst hcc
  have:=hu.2 (o / 2) (by omega)
  by_cases ho:o % 2=0
  ·rw[if_pos ho]
   refine⟨_,_,rfl,?_⟩
   have:=this.1
   rwa [show 2*(o / 2)=o by omega] at this
  ·rw[if_neg ho]
   refine⟨_,_,rfl,?_⟩
   have:=this.2
   rwa [show 2*(o / 2)+1=o by omega] at this
 rw[if_neg e2] at hg
 exact absurd rfl hg
end Go.Proofs.YtfepkhlgopjaoaaGreatDoor
namespace Go.Proofs.YtfepkhlgopjaoaaGreatDoor.codecChecksDone
open Go Go.Ab Go.RowKit Go.ChangeShapes Go.WideShapes Go.ChangeAt
theorem own:ownKnob Tryz.prog.godebug=none:=by kernel_rfl
theorem F2:laidOutB Tryz.prog=true:=by kernel_rfl
theorem Mh {W:World}(h:laidMetH Tryz.prog Rows.codecChecksRow.laid W):bX aA W (lc W):=by
 have h':laidMet Tryz.prog Rows.codecChecksRow.laid W:=h
 exact Ce (Go.Lib.laidMet.reads h' (n:= "unicode/utf8.first") (d:=Go.Lib.firstData) (by rw[show Go.Lib.firstData=(Rows.laid_unicode_utf8_first:DataW Unit) by kernel_rfl];exact List.Mem.tail _ (List.Mem.tail _ (List.Mem.tail _ (List.Mem.tail _ (List.Mem.head _))))))
  (Go.Lib.laidMet.reads h' (n:= "unicode/utf8.acceptRanges") (d:=Go.Lib.acceptData) (by rw[show Go.Lib.acceptData=(Rows.laid_unicode_utf8_acceptRanges:DataW Unit) by kernel_rfl];exact List.Mem.tail _ (List.Mem.tail _ (List.Mem.tail _ (List.Mem.head _)))))
  (Go.Lib.laidMet.reads h' (n:= "internal/strconv.uint64pow10") (d:=(Go.Lib.tabData .u64 Go.Lib.pow10Tab)) (by rw[show (Go.Lib.tabData .u64 Go.Lib.pow10Tab)=(Rows.laid_internal_strconv_uint64pow10:DataW Unit) by kernel_rfl];exact List.Mem.tail _ (List.Mem.tail _ (List.Mem.head _))))
theorem Mg:Tryz.f3.params = #[24,31]:=by kernel_rfl
theorem oU (H:Type)(enc:TypeId×Value→H)(W:World)(base:Nat)(args:Array Value)(ds gs:List (DataW H))(before:List MemPlace)
  (hval:∀ (j:Nat) t v,Tryz.f3.params[j]? = some t→args[j]? = some v→Value.okWide Tryz.prog W .any base t v)
  (hW:DataW.Whole enc Tryz.prog Tryz.f3.params.toList Rows.codecChecksSpec.vars false W args.toList ds gs before) (hsz:(DataW.weightsEach Tryz.prog (Tryz.f3.params.toList++Rows.codecChecksSpec.plain.varTypes Tryz.prog) (ds++gs)).all (·≤reachBytes)=true) (hL:laidMetH Tryz.prog Rows.codecChecksRow.laid W) :
  Calls Tryz.prog 3 args W fun e W'=>∃ v,e = .returned v∧Rows.codecChecksSpec.post enc Tryz.prog Tryz.f3 false true false false W args v W':=by
 refine BP (ts:=[24,3,22,31,9,29,25,26,27,89,37,40,38,97,4]) (tb:=4) (G:=aA) rfl F2 (by decide +kernel) (by kernel_rfl) (by decide +kernel) (by kernel_rfl) (by kernel_rfl) ?_ hval hW hsz (Mh hL) ?_
 ·intro ds hd
  rw[Mg] at hd
  match ds,hd with
  | [d0,d1],_=>rfl
 ·intro ps hp hT
  rw[Mg] at hp hT
  match ps,hp with
  | [p0,p1],_=>
    exact xF p0 p1 (hT 0 24 p0 rfl rfl) (hT 1 31 p1 rfl rfl)
def rj:DataW Unit→List Value
 | .lit (.int k n)=>[Value.int k n]
 | .agg xs=>xs.map fun x=>match x with
   | .lit (.int k n)=>Value.int k n
   | _=>Go.undef
 | _=>[]
def wg:DataW Unit→Array Value
 | .agg xs=>(xs.flatMap rj).toArray
 | _=>#[]
def j8 (d:DataW Unit):Obj→Obj
 | .cells _ t frozen=>.cells (wg d) t frozen
 | o=>o
noncomputable def cq (os:Os):World:=
 { World.holding Tryz.prog os ⟨#[],#[],[]⟩ with heap:=((((((World.holding Tryz.prog os ⟨#[],#[],[]⟩).heap.modify 6 (j8 Rows.laid_math_bits_deBruijn32tab)).modify 7 (j8 Rows.laid_math_bits_deBruijn64tab)).modify 3 (j8 Rows.laid_internal_strconv_uint64pow10)).modify 2 (j8 Rows.laid_unicode_utf8_acceptRanges)).modify 1 (j8 Rows.laid_unicode_utf8_first)) }
theorem BQ (os:Os):laidMet Tryz.prog Rows.codecChecksRow.laid ((cq os).forCall (fun _ _=>0) ⟨#[],#[.agg #[.int .i64 0,.int .i64 0,.slice none 0 0],.agg #[.string ⟨#[]⟩,.int .i64 0,.int .i64 0,.int .i64 0,.int .i64 0,.int .i64 0,.slice none 0 0,.slice none 0 0,.slice none 0 0]],[]⟩).memory:=
 laidMet_of_run' 8 (by kernel_rfl) (by kernel_rfl)
theorem reads (os:Os){H:Type}(enc:TypeId×Value→H):∃ places,DataW.whole enc Tryz.prog ((cq os).forCall (fun _ _=>0) ⟨#[],#[.agg #[.int .i64 0,.int .i64 0,.slice none 0 0],.agg #[.string ⟨#[]⟩,.int .i64 0,.int .i64 0,.int .i64 0,.int .i64 0,.int .i64 0,.slice none 0 0,.slice none 0 0,.slice none 0 0]],[]⟩).memory Tryz.f3.params.toList Rows.codecChecksSpec.vars false (#[.agg #[.int .i64 0,.int .i64 0,.slice none 0 0],.agg #[.string ⟨#[]⟩,.int .i64 0,.int .i64 0,.int .i64 0,.int .i64 0,.int .i64 0,.slice none 0 0,.slice none 0 0,.slice none 0 0]]:Array Value).toList 8=some ([.agg [.lit (.int .i64 0),.lit (.int .i64 0),.nil],.agg [.lit (.string []),.lit (.int .i64 0),.agg [.lit (.int .i64 0),.lit (.int .i64 0),.lit (.int .i64 0),.lit (.int .i64 0),.nil,.nil,.nil]]],[],places):=
 ⟨[],by kernel_rfl⟩
theorem LG:Tryz.checked.prog.inits.idxOf? 3=none:=by kernel_rfl
theorem LD (os:Os):World.variablesB Tryz.checked.prog ((cq os).forCall (fun _ _=>0) ⟨#[],#[.agg #[.int .i64 0,.int .i64 0,.slice none 0 0],.agg #[.string ⟨#[]⟩,.int .i64 0,.int .i64 0,.int .i64 0,.int .i64 0,.int .i64 0,.slice none 0 0,.slice none 0 0,.slice none 0 0]],[]⟩)=true:=by kernel_rfl
theorem LF (os:Os):List.take ((begin Tryz.checked.prog (fun _ _=>0) default).world.heap.size - Tryz.checked.prog.globals.size) (List.drop Tryz.checked.prog.globals.size ((cq os).forCall (fun _ _=>0) ⟨#[],#[.agg #[.int .i64 0,.int .i64 0,.slice none 0 0],.agg #[.string ⟨#[]⟩,.int .i64 0,.int .i64 0,.int .i64 0,.int .i64 0,.int .i64 0,.slice none 0 0,.slice none 0 0,.slice none 0 0]],[]⟩).heap.toList)=List.drop Tryz.checked.prog.globals.size (begin Tryz.checked.prog (fun _ _=>0) default).world.heap.toList:=by kernel_rfl
theorem LC (os:Os):Input.okWideB Tryz.checked.prog ((cq os).forCall (fun _ _=>0) ⟨#[],#[.agg #[.int .i64 0,.int .i64 0,.slice none 0 0],.agg #[.string ⟨#[]⟩,.int .i64 0,.int .i64 0,.int .i64 0,.int .i64 0,.int .i64 0,.slice none 0 0,.slice none 0 0,.slice none 0 0]],[]⟩) 3 ⟨#[],#[.agg #[.int .i64 0,.int .i64 0,.slice none 0 0],.agg #[.string ⟨#[]⟩,.int .i64 0,.int .i64 0,.int .i64 0,.int .i64 0,.int .i64 0,.slice none 0 0,.slice none 0 0,.slice none 0 0]],[]⟩=true:=by kernel_rfl
theorem Je (os:Os)(started:os.Started)(H:Type)(enc:TypeId×Value→H)(F:Stop.Interp) :
  ReturnsInHanded {} Tryz.checked os 3 .any ((OpenSpec.ofChange Rows.codecChecksSpec).preRow enc Tryz.prog Tryz.f3 Rows.codecChecksRow.domain false Rows.codecChecksRow.laid) (((OpenSpec.ofChange Rows.codecChecksSpec).at F).post enc Tryz.prog Tryz.f3 false true false false):=by
 obtain⟨places,hx⟩:=reads os enc
 refine returnsInHanded_of_row (C:=Tryz.checked) (s:=OpenSpec.ofChange Rows.codecChecksSpec) own started LG Tryz.func3
  (witness_row_at (enc:=enc) (C:=Tryz.checked) false (cq os) #[.agg #[.int .i64 0,.int .i64 0,.slice none 0 0],.agg #[.string ⟨#[]⟩,.int .i64 0,.int .i64 0,.int .i64 0,.int .i64 0,.int .i64 0,.slice none 0 0,.slice none 0 0,.slice none 0 0]] rfl (LD os) (LF os) (LC os)
   (OpenSpec.preRow_of_cond 8 hx (by kernel_rfl) (fun k hk=>by cases hk) (by kernel_rfl) (BQ os))) ?_
 intro W base args ds gs before hval hW _ _ hsz hL _ _
 exact oU H enc W base args ds gs before hval hW hsz hL
end Go.Proofs.YtfepkhlgopjaoaaGreatDoor.codecChecksDone
namespace Go.Proofs.YtfepkhlgopjaoaaGreatDoor.codecChecksDone
open Go Go.Ab Go.RowKit Go.ChangeShapes Go.WideShapes Go.ChangeAt
set_option maxHeartbeats 100000000 in
theorem Ml:joinedFacts Tryz.pinned.checked.prog 3 Tryz.f3 (OpenSpec.ofChange Rows.codecChecksSpec).bare Rows.codecChecksRow=true:=by
 unfold joinedFacts
 repeat' (with_reducible refine Bool.and_eq_true_iff.2 ⟨?_,?_⟩)
 all_goals as_aux_lemma=>kernel_rfl
end Go.Proofs.YtfepkhlgopjaoaaGreatDoor.codecChecksDone
