/- A part of the proof. -/
import Derived.Stop.LaidErr
import Derived.WalkKit
import Derived.Lib.LaidTab
import Derived.SevenTiedAt
import Derived.Test.YtbojpfpliibfbaaGreatDoorMxRYb
import Derived.Test.YtbojpfpliibfbaaGreatDoorCards
import Derived.Test.YtbojpfpliibfbaaGreatDoorTie
set_option maxHeartbeats 16000000
set_option maxRecDepth 100000
namespace Go.Proofs.YtbojpfpliibfbaaGreatDoor
open Go Go.Ab Go.Lib Go.Proofs
theorem u8X:U8Extra Tryz.prog Tryz.lays196_ren:=⟨by kernel_rfl,by kernel_rfl,by kernel_rfl,by kernel_rfl,by kernel_rfl,by kernel_rfl,by kernel_rfl⟩
theorem HC {W:World}(h1:VarReads Tryz.prog W "unicode/utf8.first" firstData) (h2:VarReads Tryz.prog W "unicode/utf8.acceptRanges" acceptData)
  (h3:VarReads Tryz.prog W "internal/strconv.uint64pow10" (tabData .u64 pow10Tab)):bV aq W (nj W):=by
 have hu:=utf8Tabs_of_readsT (U8Types.of196 Tryz.lays196) u8X h1 h2
 refine CP fun g hg=>?_
 unfold aq at hg ⊢
 by_cases e3:g=3
 ·subst e3
  exact vd (t:=277) (e:=169) (m:=20) h3 (by kernel_rfl) (by kernel_rfl) (by kernel_rfl) (by kernel_rfl) (by kernel_rfl) (by kernel_rfl) (by kernel_rfl)
 rw[if_neg e3] at hg ⊢
 by_cases e1:g=1
 ·subst e1
  rw[if_pos rfl] at hg ⊢
  refine mK (t:=245) (e:=5) (m:=256) h1 (by kernel_rfl) (by kernel_rfl) (by kernel_rfl) (by kernel_rfl) fun o p hp=>?_
  rw[QX,List.getElem?_map,Option.map_eq_some_iff] at hp
  obtain⟨c,hc,rfl⟩:=hp
  obtain⟨hlt,hcc⟩:=List.getElem?_eq_some_iff.1 hc
  simp at hlt hcc
  subst hcc
  exact⟨_,_,rfl,hu.1 o hlt⟩
 rw[if_neg e1] at hg ⊢
 by_cases e2:g=2
 ·subst e2
  rw[if_pos rfl] at hg ⊢
  refine mK (t:=248) (e:=247) (m:=16) h2 (by kernel_rfl) (by kernel_rfl) (by kernel_rfl) (by kernel_rfl) fun o p hp=>?_
  rw[Nc,List.getElem?_map,Option.map_eq_some_iff] at hp
  obtain⟨c,hc,rfl⟩:=hp
  obtain⟨hlt,hcc⟩:=List.getElem?_eq_some_iff.1 hc
  simp at hlt hcc
  subst hcc
  have:=hu.2 (o / 2) (by omega)
  by_cases ho:o % 2=0
  ·rw[if_pos ho]
   refine⟨_,_,rfl,?_⟩
   have:=this.1
   rwa [show 2*(o / 2)=o by omega] at this
  ·rw[if_neg ho]
   refine⟨_,_,rfl,?_⟩
   have:=this.2
   rwa [show 2*(o / 2)+1=o by omega] at this
 rw[if_neg e2] at hg
 exact absurd rfl hg
open Go.RowKit Go.ChangeShapes
theorem N0 : "*" ++ "errors.errorString" = "*errors.errorString":=by decide
theorem Ol (u:TypeId)(h:Tryz.prog.typeName? 3 u=some "*errors.errorString"):u=297:=
 typeName_ptr_named (nm:= "errors.errorString") (by rw[N0];kernel_rfl) (by kernel_rfl) (by decide) u (by rw[N0];exact h)
theorem Pt {text:List UInt8}{r:List (String×DataW Unit)}{W:World}(h:laidMet Tryz.prog (("strconv.ErrSyntax",.iface "*errors.errorString" (.ptr (.agg [.lit (.string text)])))::r) W) :
  ∃ (a:Addr) (s:ByteArray),W.var? Tryz.prog "strconv.ErrSyntax" = some #[.iface 297 (.pointer (some a))]/\W.cell? a=some (.string s)/\s.data.toList=text/\s.size<=maxLen:=
 laid_sentinel h (g:=4) (ti:=84) (te:=299) (ts:=9) (by kernel_rfl) (by kernel_rfl) Tryz.underlying84 Ol Tryz.underlying297 Tryz.underlying299 rfl rfl Tryz.underlying9 (by kernel_rfl) (by kernel_rfl)
theorem CO {W:World}(h1:VarReads Tryz.prog W "unicode/utf8.first" firstData) (h2:VarReads Tryz.prog W "unicode/utf8.acceptRanges" acceptData)
  (h3:VarReads Tryz.prog W "internal/strconv.uint64pow10" (tabData .u64 pow10Tab))
  (hE:∃ (a:Addr) (s:ByteArray),W.var? Tryz.prog "strconv.ErrSyntax" = some #[.iface 297 (.pointer (some a))]/\W.cell? a=some (.string s)):∃ p,bV (bR 297 p) W (nj W):=by
 obtain⟨⟨b,o,sp⟩,s,hv,hc⟩:=hE
 have hsp:sp=none:=by
  unfold World.cell? at hc
  cases sp with
  | none=>rfl
  | some k=>split at hc<;>simp at hc
 subst hsp
 have hg:Tryz.prog.globalNamed "strconv.ErrSyntax" = some 4:=by kernel_rfl
 have hcell:W.cell? ⟨4,0,none⟩=some (.iface 297 (.pointer (some ⟨b,o,none⟩))):=by
  have:=World.var?_cell hg hv 0
  simpa using this
 have hG:=HC h1 h2 h3
 refine⟨.gptr b o,fun g o' p hp=>?_,fun g hg'=>?_⟩
 ·unfold bR at hp
  by_cases e0:g=4
  ·subst e0
   rw[if_pos rfl] at hp
   cases o' with
   | zero=>cases hp;exact⟨World.block_lt_of_cell? W _ hcell,_,hcell,rfl,.iface _ _ _ (.gptr _ _)⟩
   | succ o'=>simp at hp
  ·rw[if_neg e0] at hp
   exact hG.1 g o' p hp
 ·unfold bR at hg' ⊢
  by_cases e0:g=4
  ·subst e0
   rw[if_pos rfl]
   unfold World.var? at hv
   rw[hg] at hv
   simp only[Option.bind_some] at hv
   split at hv
   ·rename_i cs T fz hh
    cases hv
    exact⟨_,T,fz,hh,rfl⟩
   ·cases hv
  ·rw[if_neg e0] at hg' ⊢
   exact hG.2 g hg'
end Go.Proofs.YtbojpfpliibfbaaGreatDoor
set_option linter.unusedVariables false
set_option linter.unusedSimpArgs false
namespace Go.Proofs.YtbojpfpliibfbaaGreatDoor.fixedwidthMixesDone
open Go Go.Ab Go.RowKit Go.ChangeShapes Go.WideShapes Go.ChangeAt
theorem own:ownKnob Tryz.prog.godebug=none:=by kernel_rfl
theorem LQ:laidOutB Tryz.prog=true:=by kernel_rfl
theorem R3 {W:World}(h:laidMetH Tryz.prog Rows.fixedwidthMixesRow.laid W):∃ p,bV (bR 297 p) W (nj W):=by
 have h':laidMet Tryz.prog Rows.fixedwidthMixesRow.laid W:=h
 obtain⟨a,s,e1,e2,_⟩:=Pt (((((h'.tail).tail).tail).tail).tail)
 exact CO (Go.Lib.laidMet.reads h' (n:= "unicode/utf8.first") (d:=Go.Lib.firstData) (by rw[show Go.Lib.firstData=(Rows.laid_unicode_utf8_first:DataW Unit) by kernel_rfl];exact List.Mem.tail _ (List.Mem.tail _ (List.Mem.tail _ (List.Mem.tail _ (List.Mem.tail _ (List.Mem.tail _ (List.Mem.head _))))))))
  (Go.Lib.laidMet.reads h' (n:= "unicode/utf8.acceptRanges") (d:=Go.Lib.acceptData) (by rw[show Go.Lib.acceptData=(Rows.laid_unicode_utf8_acceptRanges:DataW Unit) by kernel_rfl];exact List.Mem.tail _ (List.Mem.tail _ (List.Mem.tail _ (List.Mem.head _)))))
  (Go.Lib.laidMet.reads h' (n:= "internal/strconv.uint64pow10") (d:=(Go.Lib.tabData .u64 Go.Lib.pow10Tab)) (by rw[show (Go.Lib.tabData .u64 Go.Lib.pow10Tab)=(Rows.laid_internal_strconv_uint64pow10:DataW Unit) by kernel_rfl];exact List.Mem.tail _ (List.Mem.tail _ (List.Mem.head _))))
  ⟨a,s,e1,e2⟩
theorem R0:Tryz.f8.params = #[26,50,5]:=by kernel_rfl
theorem jw (H:Type)(enc:TypeId×Value->H)(W:World)(base:Nat)(args:Array Value)(ds gs:List (DataW H))(before:List MemPlace)
  (hval:∀ (j:Nat) t v,Tryz.f8.params[j]? = some t->args[j]? = some v->Value.okWide Tryz.prog W .any base t v)
  (hW:DataW.Whole enc Tryz.prog Tryz.f8.params.toList Rows.fixedwidthMixesSpec.vars false W args.toList ds gs before) (hsz:(DataW.weightsEach Tryz.prog (Tryz.f8.params.toList++Rows.fixedwidthMixesSpec.plain.varTypes Tryz.prog) (ds++gs)).all (·<=reachBytes)=true) (hL:laidMetH Tryz.prog Rows.fixedwidthMixesRow.laid W) :
  Calls Tryz.prog 8 args W fun e W'=>∃ v,e = .returned v/\Rows.fixedwidthMixesSpec.post enc Tryz.prog Tryz.f8 false true false false W args v W':=by
 obtain⟨p,hp0⟩:=R3 hL
 refine Hg (ts:=[26,3,22,9,23,24,54,33,36,34,60,50,5,4]) (tb:=4) (G:=bR 297 p) rfl LQ (by decide +kernel) (by kernel_rfl) (by decide +kernel) (by kernel_rfl) (by kernel_rfl) ?_ hval hW hsz hp0 ?_
 ·intro ds hd
  rw[R0] at hd
  match ds,hd with
  | [d0,d1,d2],_=>rfl
 ·intro ps hp hT
  rw[R0] at hp hT
  match ps,hp with
  | [p0,p1,p2],_=>
    exact G2 p p0 p1 p2 (hT 0 26 p0 rfl rfl) (hT 1 50 p1 rfl rfl) (hT 2 5 p2 rfl rfl)
def wP:DataW Unit->List Value
 | .lit (.int k n)=>[Value.int k n]
 | .agg xs=>xs.map fun x=>match x with
   | .lit (.int k n)=>Value.int k n
   | _=>Go.undef
 | _=>[]
def Cn:DataW Unit->Array Value
 | .agg xs=>(xs.flatMap wP).toArray
 | _=>#[]
def om (d:DataW Unit):Obj->Obj
 | .cells _ t frozen=>.cells (Cn d) t frozen
 | o=>o
def Jo (d:DataW Unit):Obj:=
 match d with
 | .iface _ (.ptr (.agg [.lit (.string bs)]))=>.cells #[.string ⟨bs.toArray⟩] 299
 | _=>.cells #[] 299
def IT (k:Nat):Obj->Obj
 | .cells _ t frozen=>.cells #[.iface 297 (.pointer (some ⟨k,0,none⟩))] t frozen
 | o=>o
noncomputable def dS (os:Os):World:=
 { World.holding Tryz.prog os ⟨#[],#[],[]⟩ with heap:=((((((((((World.holding Tryz.prog os ⟨#[],#[],[]⟩).heap.push (Jo Rows.laid_strconv_ErrRange)).push (Jo Rows.laid_strconv_ErrSyntax)).modify 6 (om Rows.laid_math_bits_deBruijn32tab)).modify 7 (om Rows.laid_math_bits_deBruijn64tab)).modify 3 (om Rows.laid_internal_strconv_uint64pow10)).modify 2 (om Rows.laid_unicode_utf8_acceptRanges)).modify 5 (IT ((World.holding Tryz.prog os ⟨#[],#[],[]⟩).heap.size+0))).modify 4 (IT ((World.holding Tryz.prog os ⟨#[],#[],[]⟩).heap.size+1))).modify 1 (om Rows.laid_unicode_utf8_first)) }
theorem Hh (os:Os):laidMet Tryz.prog Rows.fixedwidthMixesRow.laid ((dS os).forCall (fun _ _=>0) ⟨#[],#[.agg #[.int .i64 0,.int .i64 0,.int .i64 0,.int .i64 0,.slice none 0 0,.slice none 0 0,.slice none 0 0],.agg #[.int .i64 0,.int .i64 0,.int .i64 0,.string ⟨#[]⟩,.slice none 0 0,.slice none 0 0,.int .i64 0,.int .i64 0,.int .i64 0,.string ⟨#[]⟩,.slice none 0 0,.slice none 0 0],.int .u8 0],[]⟩).memory:=
 laidMet_of_run' 8 (by kernel_rfl) (by kernel_rfl)
theorem reads (os:Os){H:Type}(enc:TypeId×Value->H):∃ places,DataW.whole enc Tryz.prog ((dS os).forCall (fun _ _=>0) ⟨#[],#[.agg #[.int .i64 0,.int .i64 0,.int .i64 0,.int .i64 0,.slice none 0 0,.slice none 0 0,.slice none 0 0],.agg #[.int .i64 0,.int .i64 0,.int .i64 0,.string ⟨#[]⟩,.slice none 0 0,.slice none 0 0,.int .i64 0,.int .i64 0,.int .i64 0,.string ⟨#[]⟩,.slice none 0 0,.slice none 0 0],.int .u8 0],[]⟩).memory Tryz.f8.params.toList Rows.fixedwidthMixesSpec.vars false (#[.agg #[.int .i64 0,.int .i64 0,.int .i64 0,.int .i64 0,.slice none 0 0,.slice none 0 0,.slice none 0 0],.agg #[.int .i64 0,.int .i64 0,.int .i64 0,.string ⟨#[]⟩,.slice none 0 0,.slice none 0 0,.int .i64 0,.int .i64 0,.int .i64 0,.string ⟨#[]⟩,.slice none 0 0,.slice none 0 0],.int .u8 0]:Array Value).toList 8=some ([.agg [.lit (.int .i64 0),.lit (.int .i64 0),.lit (.int .i64 0),.lit (.int .i64 0),.nil,.nil,.nil],.agg [.agg [.lit (.int .i64 0),.lit (.int .i64 0),.lit (.int .i64 0),.lit (.string []),.nil,.nil],.agg [.lit (.int .i64 0),.lit (.int .i64 0),.lit (.int .i64 0),.lit (.string []),.nil,.nil]],.lit (.int .u8 0)],[],places):=
 ⟨[],by kernel_rfl⟩
theorem Rr:Tryz.checked.prog.inits.idxOf? 8=none:=by kernel_rfl
theorem Rp (os:Os):World.variablesB Tryz.checked.prog ((dS os).forCall (fun _ _=>0) ⟨#[],#[.agg #[.int .i64 0,.int .i64 0,.int .i64 0,.int .i64 0,.slice none 0 0,.slice none 0 0,.slice none 0 0],.agg #[.int .i64 0,.int .i64 0,.int .i64 0,.string ⟨#[]⟩,.slice none 0 0,.slice none 0 0,.int .i64 0,.int .i64 0,.int .i64 0,.string ⟨#[]⟩,.slice none 0 0,.slice none 0 0],.int .u8 0],[]⟩)=true:=by kernel_rfl
theorem Rq (os:Os):List.take ((begin Tryz.checked.prog (fun _ _=>0) default).world.heap.size - Tryz.checked.prog.globals.size) (List.drop Tryz.checked.prog.globals.size ((dS os).forCall (fun _ _=>0) ⟨#[],#[.agg #[.int .i64 0,.int .i64 0,.int .i64 0,.int .i64 0,.slice none 0 0,.slice none 0 0,.slice none 0 0],.agg #[.int .i64 0,.int .i64 0,.int .i64 0,.string ⟨#[]⟩,.slice none 0 0,.slice none 0 0,.int .i64 0,.int .i64 0,.int .i64 0,.string ⟨#[]⟩,.slice none 0 0,.slice none 0 0],.int .u8 0],[]⟩).heap.toList)=List.drop Tryz.checked.prog.globals.size (begin Tryz.checked.prog (fun _ _=>0) default).world.heap.toList:=by kernel_rfl
theorem Ro (os:Os):Input.okWideB Tryz.checked.prog ((dS os).forCall (fun _ _=>0) ⟨#[],#[.agg #[.int .i64 0,.int .i64 0,.int .i64 0,.int .i64 0,.slice none 0 0,.slice none 0 0,.slice none 0 0],.agg #[.int .i64 0,.int .i64 0,.int .i64 0,.string ⟨#[]⟩,.slice none 0 0,.slice none 0 0,.int .i64 0,.int .i64 0,.int .i64 0,.string ⟨#[]⟩,.slice none 0 0,.slice none 0 0],.int .u8 0],[]⟩) 8 ⟨#[],#[.agg #[.int .i64 0,.int .i64 0,.int .i64 0,.int .i64 0,.slice none 0 0,.slice none 0 0,.slice none 0 0],.agg #[.int .i64 0,.int .i64 0,.int .i64 0,.string ⟨#[]⟩,.slice none 0 0,.slice none 0 0,.int .i64 0,.int .i64 0,.int .i64 0,.string ⟨#[]⟩,.slice none 0 0,.slice none 0 0],.int .u8 0],[]⟩=true:=by kernel_rfl
theorem OY (os:Os)(started:os.Started)(H:Type)(enc:TypeId×Value->H)(F:Stop.Interp) :
  ReturnsInHanded {} Tryz.checked os 8 .any ((OpenSpec.ofChange Rows.fixedwidthMixesSpec).preRow enc Tryz.prog Tryz.f8 Rows.fixedwidthMixesRow.domain false Rows.fixedwidthMixesRow.laid) (((OpenSpec.ofChange Rows.fixedwidthMixesSpec).at F).post enc Tryz.prog Tryz.f8 false true false false):=by
 obtain⟨places,hx⟩:=reads os enc
 refine returnsInHanded_of_row (C:=Tryz.checked) (s:=OpenSpec.ofChange Rows.fixedwidthMixesSpec) own started Rr Tryz.func8
  (witness_row_at (enc:=enc) (C:=Tryz.checked) false (dS os) #[.agg #[.int .i64 0,.int .i64 0,.int .i64 0,.int .i64 0,.slice none 0 0,.slice none 0 0,.slice none 0 0],.agg #[.int .i64 0,.int .i64 0,.int .i64 0,.string ⟨#[]⟩,.slice none 0 0,.slice none 0 0,.int .i64 0,.int .i64 0,.int .i64 0,.string ⟨#[]⟩,.slice none 0 0,.slice none 0 0],.int .u8 0] rfl (Rp os) (Rq os) (Ro os)
   (OpenSpec.preRow_of_cond 8 hx (by kernel_rfl) (fun k hk=>by cases hk) (by kernel_rfl) (Hh os))) ?_
 intro W base args ds gs before hval hW _ _ hsz hL _ _
 exact jw H enc W base args ds gs before hval hW hsz hL
theorem R6:joinedFacts Tryz.pinned.checked.prog 8 Tryz.f8 (OpenSpec.ofChange Rows.fixedwidthMixesSpec).bare Rows.fixedwidthMixesRow=true:=by
 unfold joinedFacts
 repeat' (with_reducible refine Bool.and_eq_true_iff.2 ⟨?_,?_⟩)
 all_goals as_aux_lemma=>kernel_rfl
end Go.Proofs.YtbojpfpliibfbaaGreatDoor.fixedwidthMixesDone
