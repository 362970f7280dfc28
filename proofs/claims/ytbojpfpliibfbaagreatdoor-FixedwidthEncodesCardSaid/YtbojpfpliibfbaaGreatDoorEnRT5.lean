/- A part of the proof. -/
import Derived.Stop.LaidErr
import Derived.WalkKit
import Derived.Lib.LaidTab
import Derived.SevenTiedAt
import Derived.Test.YtbojpfpliibfbaaGreatDoorEnRE10
import Derived.Test.YtbojpfpliibfbaaGreatDoorCards
import Derived.Test.YtbojpfpliibfbaaGreatDoorTie
set_option maxHeartbeats 16000000
set_option maxRecDepth 100000
namespace Go.Proofs.YtbojpfpliibfbaaGreatDoor
open Go Go.Ab Go.Lib Go.Proofs
theorem u8X:U8Extra Tryz.prog Tryz.lays196_ren:=⟨by kernel_rfl,by kernel_rfl,by kernel_rfl,by kernel_rfl,by kernel_rfl,by kernel_rfl,by kernel_rfl⟩
theorem EW {W:World}(h1:VarReads Tryz.prog W "unicode/utf8.first" firstData) (h2:VarReads Tryz.prog W "unicode/utf8.acceptRanges" acceptData)
  (h3:VarReads Tryz.prog W "internal/strconv.uint64pow10" (tabData .u64 pow10Tab)):dG az W (oq W):=by
 have hu:=utf8Tabs_of_readsT (U8Types.of196 Tryz.lays196) u8X h1 h2
 refine Am fun g hg=>?_
 unfold az at hg ⊢
 by_cases e3:g=3
 ·subst e3
  exact tr (t:=277) (e:=169) (m:=20) h3 (by kernel_rfl) (by kernel_rfl) (by kernel_rfl) (by kernel_rfl) (by kernel_rfl) (by kernel_rfl) (by kernel_rfl)
 rw[if_neg e3] at hg ⊢
 by_cases e1:g=1
 ·subst e1
  rw[if_pos rfl] at hg ⊢
  refine mm (t:=245) (e:=5) (m:=256) h1 (by kernel_rfl) (by kernel_rfl) (by kernel_rfl) (by kernel_rfl) fun o p hp=>?_
  rw[Nf,List.getElem?_map,Option.map_eq_some_iff] at hp
  obtain⟨c,hc,rfl⟩:=hp
  obtain⟨hlt,hcc⟩:=List.getElem?_eq_some_iff.1 hc
  simp at hlt hcc
  subst hcc
  exact⟨_,_,rfl,hu.1 o hlt⟩
 rw[if_neg e1] at hg ⊢
 by_cases e2:g=2
 ·subst e2
  rw[if_pos rfl] at hg ⊢
  refine mm (t:=248) (e:=247) (m:=16) h2 (by kernel_rfl) (by kernel_rfl) (by kernel_rfl) (by kernel_rfl) fun o p hp=>?_
  rw[Kd,List.getElem?_map,Option.map_eq_some_iff] at hp
  obtain⟨c,hc,rfl⟩:=hp
  obtain⟨hlt,hcc⟩:=List.getElem?_eq_some_iff.1 hc
  simp at hlt hcc
  subst hcc
  have:=hu.2 (o / 2) (by omega)
  by_cases ho:o % 2=0
  ·rw[if_pos ho]
   refine⟨_,_,rfl,?_⟩
   have:=this.1
   rwa [show 2*(o / 2)=o by omega] at this
  ·rw[if_neg ho]
   refine⟨_,_,rfl,?_⟩
   have:=this.2
   rwa [show 2*(o / 2)+1=o by omega] at this
 rw[if_neg e2] at hg
 exact absurd rfl hg
end Go.Proofs.YtbojpfpliibfbaaGreatDoor
set_option linter.unusedVariables false
set_option linter.unusedSimpArgs false
namespace Go.Proofs.YtbojpfpliibfbaaGreatDoor.fixedwidthEncodesDone
open Go Go.Ab Go.RowKit Go.ChangeShapes Go.WideShapes Go.ChangeAt
theorem own:ownKnob Tryz.prog.godebug=none:=by kernel_rfl
theorem IS:laidOutB Tryz.prog=true:=by kernel_rfl
theorem Om {W:World}(h:laidMetH Tryz.prog Rows.fixedwidthEncodesRow.laid W):dG az W (oq W):=by
 have h':laidMet Tryz.prog Rows.fixedwidthEncodesRow.laid W:=h
 exact EW (Go.Lib.laidMet.reads h' (n:= "unicode/utf8.first") (d:=Go.Lib.firstData) (by rw[show Go.Lib.firstData=(Rows.laid_unicode_utf8_first:DataW Unit) by kernel_rfl];exact List.Mem.tail _ (List.Mem.tail _ (List.Mem.tail _ (List.Mem.tail _ (List.Mem.tail _ (List.Mem.tail _ (List.Mem.head _))))))))
  (Go.Lib.laidMet.reads h' (n:= "unicode/utf8.acceptRanges") (d:=Go.Lib.acceptData) (by rw[show Go.Lib.acceptData=(Rows.laid_unicode_utf8_acceptRanges:DataW Unit) by kernel_rfl];exact List.Mem.tail _ (List.Mem.tail _ (List.Mem.tail _ (List.Mem.head _)))))
  (Go.Lib.laidMet.reads h' (n:= "internal/strconv.uint64pow10") (d:=(Go.Lib.tabData .u64 Go.Lib.pow10Tab)) (by rw[show (Go.Lib.tabData .u64 Go.Lib.pow10Tab)=(Rows.laid_internal_strconv_uint64pow10:DataW Unit) by kernel_rfl];exact List.Mem.tail _ (List.Mem.tail _ (List.Mem.head _))))
theorem Ol:Tryz.f4.params = #[26,27,36]:=by kernel_rfl
theorem sC (H:Type)(enc:TypeId×Value->H)(W:World)(base:Nat)(args:Array Value)(ds gs:List (DataW H))(before:List MemPlace)
  (hval:∀ (j:Nat) t v,Tryz.f4.params[j]? = some t->args[j]? = some v->Value.okWide Tryz.prog W .any base t v)
  (hW:DataW.Whole enc Tryz.prog Tryz.f4.params.toList Rows.fixedwidthEncodesSpec.vars false W args.toList ds gs before) (hsz:(DataW.weightsEach Tryz.prog (Tryz.f4.params.toList++Rows.fixedwidthEncodesSpec.plain.varTypes Tryz.prog) (ds++gs)).all (·<=reachBytes)=true) (hL:laidMetH Tryz.prog Rows.fixedwidthEncodesRow.laid W) :
  Calls Tryz.prog 4 args W fun e W'=>∃ v,e = .returned v/\Rows.fixedwidthEncodesSpec.post enc Tryz.prog Tryz.f4 false true false false W args v W':=by
 refine Ez (ts:=[26,3,22,9,23,24,54,33,36,34,60,27,4]) (tb:=4) (G:=az) rfl IS (by decide +kernel) (by kernel_rfl) (by decide +kernel) (by kernel_rfl) (by kernel_rfl) ?_ hval hW hsz (Om hL) ?_
 ·intro ds hd
  rw[Ol] at hd
  match ds,hd with
  | [d0,d1,d2],_=>rfl
 ·intro ps hp hT
  rw[Ol] at hp hT
  match ps,hp with
  | [p0,p1,p2],_=>
    exact vm p0 p1 p2 (hT 0 26 p0 rfl rfl) (hT 1 27 p1 rfl rfl) (hT 2 36 p2 rfl rfl)
def uK:DataW Unit->List Value
 | .lit (.int k n)=>[Value.int k n]
 | .agg xs=>xs.map fun x=>match x with
   | .lit (.int k n)=>Value.int k n
   | _=>Go.undef
 | _=>[]
def zJ:DataW Unit->Array Value
 | .agg xs=>(xs.flatMap uK).toArray
 | _=>#[]
def nH (d:DataW Unit):Obj->Obj
 | .cells _ t frozen=>.cells (zJ d) t frozen
 | o=>o
def Gy (d:DataW Unit):Obj:=
 match d with
 | .iface _ (.ptr (.agg [.lit (.string bs)]))=>.cells #[.string ⟨bs.toArray⟩] 299
 | _=>.cells #[] 299
def F6 (k:Nat):Obj->Obj
 | .cells _ t frozen=>.cells #[.iface 297 (.pointer (some ⟨k,0,none⟩))] t frozen
 | o=>o
noncomputable def ek (os:Os):World:=
 { World.holding Tryz.prog os ⟨#[],#[],[]⟩ with heap:=((((((((((World.holding Tryz.prog os ⟨#[],#[],[]⟩).heap.push (Gy Rows.laid_strconv_ErrRange)).push (Gy Rows.laid_strconv_ErrSyntax)).modify 6 (nH Rows.laid_math_bits_deBruijn32tab)).modify 7 (nH Rows.laid_math_bits_deBruijn64tab)).modify 3 (nH Rows.laid_internal_strconv_uint64pow10)).modify 2 (nH Rows.laid_unicode_utf8_acceptRanges)).modify 5 (F6 ((World.holding Tryz.prog os ⟨#[],#[],[]⟩).heap.size+0))).modify 4 (F6 ((World.holding Tryz.prog os ⟨#[],#[],[]⟩).heap.size+1))).modify 1 (nH Rows.laid_unicode_utf8_first)) }
theorem EA (os:Os):laidMet Tryz.prog Rows.fixedwidthEncodesRow.laid ((ek os).forCall (fun _ _=>0) ⟨#[],#[.agg #[.int .i64 0,.int .i64 0,.int .i64 0,.int .i64 0,.slice none 0 0,.slice none 0 0,.slice none 0 0],.slice none 0 0,.agg #[.int .i64 0,.int .i64 0,.int .i64 0,.string ⟨#[]⟩,.slice none 0 0,.slice none 0 0]],[]⟩).memory:=
 laidMet_of_run' 8 (by kernel_rfl) (by kernel_rfl)
theorem reads (os:Os){H:Type}(enc:TypeId×Value->H):∃ places,DataW.whole enc Tryz.prog ((ek os).forCall (fun _ _=>0) ⟨#[],#[.agg #[.int .i64 0,.int .i64 0,.int .i64 0,.int .i64 0,.slice none 0 0,.slice none 0 0,.slice none 0 0],.slice none 0 0,.agg #[.int .i64 0,.int .i64 0,.int .i64 0,.string ⟨#[]⟩,.slice none 0 0,.slice none 0 0]],[]⟩).memory Tryz.f4.params.toList Rows.fixedwidthEncodesSpec.vars false (#[.agg #[.int .i64 0,.int .i64 0,.int .i64 0,.int .i64 0,.slice none 0 0,.slice none 0 0,.slice none 0 0],.slice none 0 0,.agg #[.int .i64 0,.int .i64 0,.int .i64 0,.string ⟨#[]⟩,.slice none 0 0,.slice none 0 0]]:Array Value).toList 8=some ([.agg [.lit (.int .i64 0),.lit (.int .i64 0),.lit (.int .i64 0),.lit (.int .i64 0),.nil,.nil,.nil],.nil,.agg [.lit (.int .i64 0),.lit (.int .i64 0),.lit (.int .i64 0),.lit (.string []),.nil,.nil]],[],places):=
 ⟨[],by kernel_rfl⟩
theorem NM:Tryz.checked.prog.inits.idxOf? 4=none:=by kernel_rfl
theorem NK (os:Os):World.variablesB Tryz.checked.prog ((ek os).forCall (fun _ _=>0) ⟨#[],#[.agg #[.int .i64 0,.int .i64 0,.int .i64 0,.int .i64 0,.slice none 0 0,.slice none 0 0,.slice none 0 0],.slice none 0 0,.agg #[.int .i64 0,.int .i64 0,.int .i64 0,.string ⟨#[]⟩,.slice none 0 0,.slice none 0 0]],[]⟩)=true:=by kernel_rfl
theorem NL (os:Os):List.take ((begin Tryz.checked.prog (fun _ _=>0) default).world.heap.size - Tryz.checked.prog.globals.size) (List.drop Tryz.checked.prog.globals.size ((ek os).forCall (fun _ _=>0) ⟨#[],#[.agg #[.int .i64 0,.int .i64 0,.int .i64 0,.int .i64 0,.slice none 0 0,.slice none 0 0,.slice none 0 0],.slice none 0 0,.agg #[.int .i64 0,.int .i64 0,.int .i64 0,.string ⟨#[]⟩,.slice none 0 0,.slice none 0 0]],[]⟩).heap.toList)=List.drop Tryz.checked.prog.globals.size (begin Tryz.checked.prog (fun _ _=>0) default).world.heap.toList:=by kernel_rfl
theorem NJ (os:Os):Input.okWideB Tryz.checked.prog ((ek os).forCall (fun _ _=>0) ⟨#[],#[.agg #[.int .i64 0,.int .i64 0,.int .i64 0,.int .i64 0,.slice none 0 0,.slice none 0 0,.slice none 0 0],.slice none 0 0,.agg #[.int .i64 0,.int .i64 0,.int .i64 0,.string ⟨#[]⟩,.slice none 0 0,.slice none 0 0]],[]⟩) 4 ⟨#[],#[.agg #[.int .i64 0,.int .i64 0,.int .i64 0,.int .i64 0,.slice none 0 0,.slice none 0 0,.slice none 0 0],.slice none 0 0,.agg #[.int .i64 0,.int .i64 0,.int .i64 0,.string ⟨#[]⟩,.slice none 0 0,.slice none 0 0]],[]⟩=true:=by kernel_rfl
theorem LF (os:Os)(started:os.Started)(H:Type)(enc:TypeId×Value->H)(F:Stop.Interp) :
  ReturnsInHanded {} Tryz.checked os 4 .any ((OpenSpec.ofChange Rows.fixedwidthEncodesSpec).preRow enc Tryz.prog Tryz.f4 Rows.fixedwidthEncodesRow.domain false Rows.fixedwidthEncodesRow.laid) (((OpenSpec.ofChange Rows.fixedwidthEncodesSpec).at F).post enc Tryz.prog Tryz.f4 false true false false):=by
 obtain⟨places,hx⟩:=reads os enc
 refine returnsInHanded_of_row (C:=Tryz.checked) (s:=OpenSpec.ofChange Rows.fixedwidthEncodesSpec) own started NM Tryz.func4
  (witness_row_at (enc:=enc) (C:=Tryz.checked) false (ek os) #[.agg #[.int .i64 0,.int .i64 0,.int .i64 0,.int .i64 0,.slice none 0 0,.slice none 0 0,.slice none 0 0],.slice none 0 0,.agg #[.int .i64 0,.int .i64 0,.int .i64 0,.string ⟨#[]⟩,.slice none 0 0,.slice none 0 0]] rfl (NK os) (NL os) (NJ os)
   (OpenSpec.preRow_of_cond 8 hx (by kernel_rfl) (fun k hk=>by cases hk) (by kernel_rfl) (EA os))) ?_
 intro W base args ds gs before hval hW _ _ hsz hL _ _
 exact sC H enc W base args ds gs before hval hW hsz hL
theorem Ot:joinedFacts Tryz.pinned.checked.prog 4 Tryz.f4 (OpenSpec.ofChange Rows.fixedwidthEncodesSpec).bare Rows.fixedwidthEncodesRow=true:=by
 unfold joinedFacts
 repeat' (with_reducible refine Bool.and_eq_true_iff.2 ⟨?_,?_⟩)
 all_goals as_aux_lemma=>kernel_rfl
end Go.Proofs.YtbojpfpliibfbaaGreatDoor.fixedwidthEncodesDone
