/- A part of the proof for LiteralDiffersCardSaid. -/
import Derived.Stop.LaidErr
import Derived.Test.YtamoeblcphjbaaaGreatDoorDiLC17
import Derived.Test.YtamoeblcphjbaaaGreatDoorDiL20
import Derived.WalkKit
import Derived.Lib.LaidTab
import Derived.SevenTiedAt
import Derived.Test.YtamoeblcphjbaaaGreatDoorCards
import Derived.Test.YtamoeblcphjbaaaGreatDoorTie
set_option maxRecDepth 100000
namespace Go.Proofs.YtamoeblcphjbaaaGreatDoor
open Go Go.Ab Go.Lib Go.Proofs Go.RowKit Go.ChangeShapes
theorem Fc : "*" ++ "errors.errorString" = "*errors.errorString":=by decide
theorem Fy (u:TypeId)(h:Tryz.prog.typeName? 3 u=some "*errors.errorString"):u=270:=
 typeName_ptr_named (nm:= "errors.errorString") (by rw[Fc];kernel_rfl) (by kernel_rfl) (by decide) u (by rw[Fc];exact h)
theorem Gz {text:List UInt8}{r:List (String×DataW Unit)}{W:World}(h:laidMet Tryz.prog (("strconv.ErrSyntax",.iface "*errors.errorString" (.ptr (.agg [.lit (.string text)])))::r) W) :
  ∃ (a:Addr) (s:ByteArray),W.var? Tryz.prog "strconv.ErrSyntax" = some #[.iface 270 (.pointer (some a))]∧W.cell? a=some (.string s)∧s.data.toList=text∧s.size≤maxLen:=
 laid_sentinel h (g:=6) (ti:=85) (te:=272) (ts:=9) (by kernel_rfl) (by kernel_rfl) Tryz.underlying85 Fy Tryz.underlying270 Tryz.underlying272 rfl rfl Tryz.underlying9 (by kernel_rfl) (by kernel_rfl)
theorem vn {W:World}(h1:VarReads Tryz.prog W "unicode/utf8.first" firstData) (h2:VarReads Tryz.prog W "unicode/utf8.acceptRanges" acceptData)
  (h3:VarReads Tryz.prog W "internal/strconv.uint64pow10" (tabData .u64 pow10Tab)) (h5:VarReads Tryz.prog W "math/bits.deBruijn64tab" (tabData .u8 (deBruijn64tab.map fun n:Nat=>(n:Int))))
  (hE:∃ (a:Addr) (s:ByteArray),W.var? Tryz.prog "strconv.ErrSyntax" = some #[.iface 270 (.pointer (some a))]∧W.cell? a=some (.string s)):∃ p,bH (sr 270 p) W (jR W):=by
 obtain⟨⟨b,o,sp⟩,s,hv,hc⟩:=hE
 have hsp:sp=none:=by
  unfold World.cell? at hc
  cases sp with
  | none=>rfl
  | some k=>split at hc<;>simp at hc
 subst hsp
 have hg:Tryz.prog.globalNamed "strconv.ErrSyntax" = some 6:=by kernel_rfl
 have hcell:W.cell? ⟨6,0,none⟩=some (.iface 270 (.pointer (some ⟨b,o,none⟩))):=by
  have:=World.var?_cell hg hv 0
  simpa using this
 have hG:=Ae h1 h2 h3 h5
 refine⟨.gptr b o,fun g o' p hp=>?_,fun g hg'=>?_⟩
 ·unfold sr at hp
  by_cases e0:g=6
  ·subst e0
   rw[if_pos rfl] at hp
   cases o' with
   | zero=>cases hp;exact⟨World.block_lt_of_cell? W _ hcell,_,hcell,rfl,.iface _ _ _ (.gptr _ _)⟩
   | succ o'=>simp at hp
  ·rw[if_neg e0] at hp
   exact hG.1 g o' p hp
 ·unfold sr at hg' ⊢
  by_cases e0:g=6
  ·subst e0
   rw[if_pos rfl]
   unfold World.var? at hv
   rw[hg] at hv
   simp only[Option.bind_some] at hv
   split at hv
   ·rename_i cs T fz hh
    cases hv
    exact⟨_,T,fz,hh,rfl⟩
   ·cases hv
  ·rw[if_neg e0] at hg' ⊢
   exact hG.2 g hg'
end Go.Proofs.YtamoeblcphjbaaaGreatDoor
set_option linter.unusedVariables false
set_option linter.unusedSimpArgs false
namespace Go.Proofs.YtamoeblcphjbaaaGreatDoor.literalDiffersDone
open Go Go.Ab Go.RowKit Go.ChangeShapes Go.WideShapes Go.ChangeAt
theorem own:ownKnob Tryz.prog.godebug=none:=by kernel_rfl
theorem DG:laidOutB Tryz.prog=true:=by kernel_rfl
theorem IV {W:World}(h:laidMetH Tryz.prog Rows.literalDiffersRow.laid W):∃ p,bH (sr 270 p) W (jR W):=by
 have h':laidMet Tryz.prog Rows.literalDiffersRow.laid W:=h
 obtain⟨a,s,e1,e2,_⟩:=Gz (((((h'.tail).tail).tail).tail).tail)
 exact vn (Go.Lib.laidMet.reads h' (n:= "unicode/utf8.first") (d:=Go.Lib.firstData) (by rw[show Go.Lib.firstData=(Rows.laid_unicode_utf8_first:DataW Unit) by kernel_rfl];exact List.Mem.tail _ (List.Mem.tail _ (List.Mem.tail _ (List.Mem.tail _ (List.Mem.tail _ (List.Mem.tail _ (List.Mem.head _))))))))
  (Go.Lib.laidMet.reads h' (n:= "unicode/utf8.acceptRanges") (d:=Go.Lib.acceptData) (by rw[show Go.Lib.acceptData=(Rows.laid_unicode_utf8_acceptRanges:DataW Unit) by kernel_rfl];exact List.Mem.tail _ (List.Mem.tail _ (List.Mem.tail _ (List.Mem.head _)))))
  (Go.Lib.laidMet.reads h' (n:= "internal/strconv.uint64pow10") (d:=(Go.Lib.tabData .u64 Go.Lib.pow10Tab)) (by rw[show (Go.Lib.tabData .u64 Go.Lib.pow10Tab)=(Rows.laid_internal_strconv_uint64pow10:DataW Unit) by kernel_rfl];exact List.Mem.tail _ (List.Mem.tail _ (List.Mem.head _))))
  (Go.Lib.laidMet.reads h' (n:= "math/bits.deBruijn64tab") (d:=(Go.Lib.tabData .u8 (Go.Lib.deBruijn64tab.map fun n:Nat=>(n:Int)))) (by rw[show (Go.Lib.tabData .u8 (Go.Lib.deBruijn64tab.map fun n:Nat=>(n:Int)))=(Rows.laid_math_bits_deBruijn64tab:DataW Unit) by kernel_rfl];exact List.Mem.tail _ (List.Mem.head _)))
  ⟨a,s,e1,e2⟩
theorem IT:Tryz.f7.params = #[25,25]:=by kernel_rfl
theorem gi (H:Type)(enc:TypeId×Value→H)(W:World)(base:Nat)(args:Array Value)(ds gs:List (DataW H))(before:List MemPlace)
  (hval:∀ (j:Nat) t v,Tryz.f7.params[j]? = some t→args[j]? = some v→Value.okWide Tryz.prog W .any base t v)
  (hW:DataW.Whole enc Tryz.prog Tryz.f7.params.toList Rows.literalDiffersSpec.vars false W args.toList ds gs before) (hsz:(DataW.weightsEach Tryz.prog (Tryz.f7.params.toList++Rows.literalDiffersSpec.plain.varTypes Tryz.prog) (ds++gs)).all (·≤reachBytes)=true) (hL:laidMetH Tryz.prog Rows.literalDiffersRow.laid W) :
  Calls Tryz.prog 7 args W fun e W'=>∃ v,e = .returned v∧Rows.literalDiffersSpec.post enc Tryz.prog Tryz.f7 false true false false W args v W':=by
 obtain⟨p,hp0⟩:=IV hL
 refine zP (ts:=[25,3,9,22,23,39,4]) (tb:=4) (G:=sr 270 p) rfl DG (by decide +kernel) (by kernel_rfl) (by decide +kernel) (by kernel_rfl) (by kernel_rfl) ?_ hval hW hsz hp0 ?_
 ·intro ds hd
  rw[IT] at hd
  match ds,hd with
  | [d0,d1],_=>rfl
 ·intro ps hp hT
  rw[IT] at hp hT
  match ps,hp with
  | [p0,p1],_=>
    exact re p p0 p1 (hT 0 25 p0 rfl rfl) (hT 1 25 p1 rfl rfl)
def qP:DataW Unit→List Value
 | .lit (.int k n)=>[Value.int k n]
 | .agg xs=>xs.map fun x=>match x with
   | .lit (.int k n)=>Value.int k n
   | _=>Go.undef
 | _=>[]
def uU:DataW Unit→Array Value
 | .agg xs=>(xs.flatMap qP).toArray
 | _=>#[]
def kD (d:DataW Unit):Obj→Obj
 | .cells _ t frozen=>.cells (uU d) t frozen
 | o=>o
def By (d:DataW Unit):Obj:=
 match d with
 | .iface _ (.ptr (.agg [.lit (.string bs)]))=>.cells #[.string ⟨bs.toArray⟩] 272
 | _=>.cells #[] 272
def A2 (k:Nat):Obj→Obj
 | .cells _ t frozen=>.cells #[.iface 270 (.pointer (some ⟨k,0,none⟩))] t frozen
 | o=>o
noncomputable def cK (os:Os):World:=
 { World.holding Tryz.prog os ⟨#[],#[],[]⟩ with heap:=((((((((((World.holding Tryz.prog os ⟨#[],#[],[]⟩).heap.push (By Rows.laid_strconv_ErrRange)).push (By Rows.laid_strconv_ErrSyntax)).modify 4 (kD Rows.laid_math_bits_deBruijn32tab)).modify 5 (kD Rows.laid_math_bits_deBruijn64tab)).modify 3 (kD Rows.laid_internal_strconv_uint64pow10)).modify 1 (kD Rows.laid_unicode_utf8_acceptRanges)).modify 7 (A2 ((World.holding Tryz.prog os ⟨#[],#[],[]⟩).heap.size+0))).modify 6 (A2 ((World.holding Tryz.prog os ⟨#[],#[],[]⟩).heap.size+1))).modify 0 (kD Rows.laid_unicode_utf8_first)) }
theorem zU (os:Os):laidMet Tryz.prog Rows.literalDiffersRow.laid ((cK os).forCall (fun _ _=>0) ⟨#[],#[.agg #[.int .i64 0,.int .i64 0,.int .i64 0,.string ⟨#[]⟩,.slice none 0 0,.slice none 0 0],.agg #[.int .i64 0,.int .i64 0,.int .i64 0,.string ⟨#[]⟩,.slice none 0 0,.slice none 0 0]],[]⟩).memory:=
 laidMet_of_run' 8 (by kernel_rfl) (by kernel_rfl)
theorem reads (os:Os){H:Type}(enc:TypeId×Value→H):∃ places,DataW.whole enc Tryz.prog ((cK os).forCall (fun _ _=>0) ⟨#[],#[.agg #[.int .i64 0,.int .i64 0,.int .i64 0,.string ⟨#[]⟩,.slice none 0 0,.slice none 0 0],.agg #[.int .i64 0,.int .i64 0,.int .i64 0,.string ⟨#[]⟩,.slice none 0 0,.slice none 0 0]],[]⟩).memory Tryz.f7.params.toList Rows.literalDiffersSpec.vars false (#[.agg #[.int .i64 0,.int .i64 0,.int .i64 0,.string ⟨#[]⟩,.slice none 0 0,.slice none 0 0],.agg #[.int .i64 0,.int .i64 0,.int .i64 0,.string ⟨#[]⟩,.slice none 0 0,.slice none 0 0]]:Array Value).toList 8=some ([.agg [.lit (.int .i64 0),.lit (.int .i64 0),.lit (.int .i64 0),.lit (.string []),.nil,.nil],.agg [.lit (.int .i64 0),.lit (.int .i64 0),.lit (.int .i64 0),.lit (.string []),.nil,.nil]],[],places):=
 ⟨[],by kernel_rfl⟩
theorem Ik:Tryz.checked.prog.inits.idxOf? 7=none:=by kernel_rfl
theorem Ii (os:Os):World.variablesB Tryz.checked.prog ((cK os).forCall (fun _ _=>0) ⟨#[],#[.agg #[.int .i64 0,.int .i64 0,.int .i64 0,.string ⟨#[]⟩,.slice none 0 0,.slice none 0 0],.agg #[.int .i64 0,.int .i64 0,.int .i64 0,.string ⟨#[]⟩,.slice none 0 0,.slice none 0 0]],[]⟩)=true:=by kernel_rfl
theorem Ij (os:Os):List.take ((begin Tryz.checked.prog (fun _ _=>0) default).world.heap.size - Tryz.checked.prog.globals.size) (List.drop Tryz.checked.prog.globals.size ((cK os).forCall (fun _ _=>0) ⟨#[],#[.agg #[.int .i64 0,.int .i64 0,.int .i64 0,.string ⟨#[]⟩,.slice none 0 0,.slice none 0 0],.agg #[.int .i64 0,.int .i64 0,.int .i64 0,.string ⟨#[]⟩,.slice none 0 0,.slice none 0 0]],[]⟩).heap.toList)=List.drop Tryz.checked.prog.globals.size (begin Tryz.checked.prog (fun _ _=>0) default).world.heap.toList:=by kernel_rfl
theorem Ih (os:Os):Input.okWideB Tryz.checked.prog ((cK os).forCall (fun _ _=>0) ⟨#[],#[.agg #[.int .i64 0,.int .i64 0,.int .i64 0,.string ⟨#[]⟩,.slice none 0 0,.slice none 0 0],.agg #[.int .i64 0,.int .i64 0,.int .i64 0,.string ⟨#[]⟩,.slice none 0 0,.slice none 0 0]],[]⟩) 7 ⟨#[],#[.agg #[.int .i64 0,.int .i64 0,.int .i64 0,.string ⟨#[]⟩,.slice none 0 0,.slice none 0 0],.agg #[.int .i64 0,.int .i64 0,.int .i64 0,.string ⟨#[]⟩,.slice none 0 0,.slice none 0 0]],[]⟩=true:=by kernel_rfl
theorem Gb (os:Os)(started:os.Started)(H:Type)(enc:TypeId×Value→H)(F:Stop.Interp) :
  ReturnsInHanded {} Tryz.checked os 7 .any ((OpenSpec.ofChange Rows.literalDiffersSpec).preRow enc Tryz.prog Tryz.f7 Rows.literalDiffersRow.domain false Rows.literalDiffersRow.laid) (((OpenSpec.ofChange Rows.literalDiffersSpec).at F).post enc Tryz.prog Tryz.f7 false true false false):=by
 obtain⟨places,hx⟩:=reads os enc
 refine returnsInHanded_of_row (C:=Tryz.checked) (s:=OpenSpec.ofChange Rows.literalDiffersSpec) own started Ik Tryz.func7
  (witness_row_at (enc:=enc) (C:=Tryz.checked) false (cK os) #[.agg #[.int .i64 0,.int .i64 0,.int .i64 0,.string ⟨#[]⟩,.slice none 0 0,.slice none 0 0],.agg #[.int .i64 0,.int .i64 0,.int .i64 0,.string ⟨#[]⟩,.slice none 0 0,.slice none 0 0]] rfl (Ii os) (Ij os) (Ih os)
   (OpenSpec.preRow_of_cond 8 hx (by kernel_rfl) (fun k hk=>by cases hk) (by kernel_rfl) (zU os))) ?_
 intro W base args ds gs before hval hW _ _ hsz hL _ _
 exact gi H enc W base args ds gs before hval hW hsz hL
end Go.Proofs.YtamoeblcphjbaaaGreatDoor.literalDiffersDone
namespace Go.Proofs.YtamoeblcphjbaaaGreatDoor.literalDiffersDone
open Go Go.Ab Go.RowKit Go.ChangeShapes Go.WideShapes Go.ChangeAt
set_option maxHeartbeats 100000000 in
theorem I0:joinedFacts Tryz.pinned.checked.prog 7 Tryz.f7 (OpenSpec.ofChange Rows.literalDiffersSpec).bare Rows.literalDiffersRow=true:=by
 unfold joinedFacts
 repeat' (with_reducible refine Bool.and_eq_true_iff.2 ⟨?_,?_⟩)
 all_goals as_aux_lemma=>kernel_rfl
end Go.Proofs.YtamoeblcphjbaaaGreatDoor.literalDiffersDone
