/- A part. -/
import Derived.Stop.LaidErr
import Derived.Test.YtbaaokocnegdoaaGreatDoorEnVZc
import Derived.WalkKit
import Derived.Lib.LaidTab
import Derived.SevenTiedAt
import Derived.Test.YtbaaokocnegdoaaGreatDoorCards
import Derived.Test.YtbaaokocnegdoaaGreatDoorTie
set_option linter.unusedVariables false
set_option linter.unusedSimpArgs false
set_option maxHeartbeats 16000000
set_option maxRecDepth 100000
namespace Go.Proofs.YtbaaokocnegdoaaGreatDoor
open Go Go.Ab Go.Lib Go.Proofs Go.RowKit Go.ChangeShapes
theorem Pc : "*" ++ "errors.errorString" = "*errors.errorString":=by decide
theorem PB (u:TypeId)(h:Tryz.prog.typeName? 3 u=some "*errors.errorString"):u=276:=
 typeName_ptr_named (nm:= "errors.errorString") (by rw[Pc];kernel_rfl) (by kernel_rfl) (by decide) u (by rw[Pc];exact h)
theorem Qu {text:List UInt8}{r:List (String×DataW Unit)}{W:World}(h:laidMet Tryz.prog (("strconv.ErrSyntax",.iface "*errors.errorString" (.ptr (.agg [.lit (.string text)])))::r) W) :
  ∃ (a:Addr) (s:ByteArray),W.var? Tryz.prog "strconv.ErrSyntax" = some #[.iface 276 (.pointer (some a))]/\W.cell? a=some (.string s)/\s.data.toList=text/\s.size<=maxLen:=
 laid_sentinel h (g:=1) (ti:=91) (te:=278) (ts:=9) (by kernel_rfl) (by kernel_rfl) Tryz.underlying91 PB Tryz.underlying276 Tryz.underlying278 rfl rfl Tryz.underlying9 (by kernel_rfl) (by kernel_rfl)
theorem Ea {W:World}(h1:VarReads Tryz.prog W "unicode/utf8.first" firstData) (h2:VarReads Tryz.prog W "unicode/utf8.acceptRanges" acceptData)
  (h3:VarReads Tryz.prog W "internal/strconv.uint64pow10" (tabData .u64 pow10Tab))
  (hE:∃ (a:Addr) (s:ByteArray),W.var? Tryz.prog "strconv.ErrSyntax" = some #[.iface 276 (.pointer (some a))]/\W.cell? a=some (.string s)):∃ p,bG (pF 276 p) W (ml W):=by
 obtain⟨⟨b,o,sp⟩,s,hv,hc⟩:=hE
 have hsp:sp=none:=by
  unfold World.cell? at hc
  cases sp with
  | none=>rfl
  | some k=>split at hc<;>simp at hc
 subst hsp
 have hg:Tryz.prog.globalNamed "strconv.ErrSyntax" = some 1:=by kernel_rfl
 have hcell:W.cell? ⟨1,0,none⟩=some (.iface 276 (.pointer (some ⟨b,o,none⟩))):=by
  have:=World.var?_cell hg hv 0
  simpa using this
 have hG:=wb h1 h2 h3
 refine⟨.gptr b o,fun g o' p hp=>?_,fun g hg'=>?_⟩
 ·unfold pF at hp
  by_cases e0:g=1
  ·subst e0
   rw[if_pos rfl] at hp
   cases o' with
   | zero=>cases hp;exact⟨World.block_lt_of_cell? W _ hcell,_,hcell,rfl,.iface _ _ _ (.gptr _ _)⟩
   | succ o'=>simp at hp
  ·rw[if_neg e0] at hp
   exact hG.1 g o' p hp
 ·unfold pF at hg' ⊢
  by_cases e0:g=1
  ·subst e0
   rw[if_pos rfl]
   unfold World.var? at hv
   rw[hg] at hv
   simp only[Option.bind_some] at hv
   split at hv
   ·rename_i cs T fz hh
    cases hv
    exact⟨_,T,fz,hh,rfl⟩
   ·cases hv
  ·rw[if_neg e0] at hg' ⊢
   exact hG.2 g hg'
theorem D8 {W:World}(hS:W.ShapedOpen Tryz.prog)(h1:VarReads Tryz.prog W "unicode/utf8.first" firstData) (h2:VarReads Tryz.prog W "unicode/utf8.acceptRanges" acceptData)
  (h3:VarReads Tryz.prog W "internal/strconv.uint64pow10" (tabData .u64 pow10Tab))
  (hE:∃ (a:Addr) (s:ByteArray),W.var? Tryz.prog "strconv.ErrSyntax" = some #[.iface 276 (.pointer (some a))]/\W.cell? a=some (.string s)):∃ m p,bG (kv m 276 p) W (ml W):=by
 obtain⟨m,hM⟩:=D9 hS h1 h2 h3
 obtain⟨p,hP⟩:=Ea h1 h2 h3 hE
 refine⟨m,p,fun g o q hq=>?_,fun g hg=>?_⟩
 ·unfold kv at hq
  by_cases e0:g=0
  ·subst e0
   rw[if_pos rfl] at hq
   exact hM.1 0 o q (by unfold m6;rw[if_pos rfl];exact hq)
  ·rw[if_neg e0] at hq
   exact hP.1 g o q hq
 ·unfold kv at hg ⊢
  by_cases e0:g=0
  ·subst e0
   rw[if_pos rfl]
   have h:=hM.2 0 (by unfold m6;rw[if_pos rfl];simp)
   unfold m6 at h
   rw[if_pos rfl] at h
   exact h
  ·rw[if_neg e0] at hg ⊢
   exact hP.2 g hg
end Go.Proofs.YtbaaokocnegdoaaGreatDoor
namespace Go.Proofs.YtbaaokocnegdoaaGreatDoor.delimitedEncodesDone
open Go Go.Ab Go.RowKit Go.ChangeShapes Go.WideShapes Go.ChangeAt
theorem own:ownKnob Tryz.prog.godebug=none:=by kernel_rfl
theorem MY:laidOutB Tryz.prog=true:=by kernel_rfl
theorem S1 {W:World}(hS:W.ShapedOpen Tryz.prog)(h:laidMetH Tryz.prog Rows.delimitedEncodesRow.laid W):∃ m p,bG (kv m 276 p) W (ml W):=by
 have h':laidMet Tryz.prog Rows.delimitedEncodesRow.laid W:=h
 obtain⟨a,s,e1,e2,_⟩:=Qu (((((h'.tail).tail).tail).tail).tail)
 exact D8 hS (Go.Lib.laidMet.reads h' (n:= "unicode/utf8.first") (d:=Go.Lib.firstData) (by rw[show Go.Lib.firstData=(Rows.laid_unicode_utf8_first:DataW Unit) by kernel_rfl];exact List.Mem.tail _ (List.Mem.tail _ (List.Mem.tail _ (List.Mem.tail _ (List.Mem.tail _ (List.Mem.tail _ (List.Mem.head _))))))))
  (Go.Lib.laidMet.reads h' (n:= "unicode/utf8.acceptRanges") (d:=Go.Lib.acceptData) (by rw[show Go.Lib.acceptData=(Rows.laid_unicode_utf8_acceptRanges:DataW Unit) by kernel_rfl];exact List.Mem.tail _ (List.Mem.tail _ (List.Mem.tail _ (List.Mem.head _)))))
  (Go.Lib.laidMet.reads h' (n:= "internal/strconv.uint64pow10") (d:=(Go.Lib.tabData .u64 Go.Lib.pow10Tab)) (by rw[show (Go.Lib.tabData .u64 Go.Lib.pow10Tab)=(Rows.laid_internal_strconv_uint64pow10:DataW Unit) by kernel_rfl];exact List.Mem.tail _ (List.Mem.tail _ (List.Mem.head _))))
  ⟨a,s,e1,e2⟩
theorem SZ:Tryz.f5.params = #[26,31,3]:=by kernel_rfl
theorem gr (H:Type)(enc:TypeId×Value->H)(W:World)(base:Nat)(args:Array Value)(ds gs:List (DataW H))(before:List MemPlace)
  (hval:∀ (j:Nat) t v,Tryz.f5.params[j]? = some t->args[j]? = some v->Value.okWide Tryz.prog W .any base t v)
  (hW:DataW.Whole enc Tryz.prog Tryz.f5.params.toList Rows.delimitedEncodesSpec.vars false W args.toList ds gs before) (hsz:(DataW.weightsEach Tryz.prog (Tryz.f5.params.toList++Rows.delimitedEncodesSpec.plain.varTypes Tryz.prog) (ds++gs)).all (·<=reachBytes)=true) (hL:laidMetH Tryz.prog Rows.delimitedEncodesRow.laid W) (hS:W.ShapedOpen Tryz.prog) :
  Calls Tryz.prog 5 args W fun e W'=>∃ v,e = .returned v/\Rows.delimitedEncodesSpec.post enc Tryz.prog Tryz.f5 false true false false W args v W':=by
 obtain⟨m,p,hp0⟩:=S1 hS hL
 refine Ih (ts:=[26,3,22,9,23,24,98,28,31,29,83,4]) (tb:=4) (G:=kv m 276 p) rfl MY (by decide +kernel) (by kernel_rfl) (by decide +kernel) (by kernel_rfl) (by kernel_rfl) ?_ hval hW hsz hp0 ?_
 ·intro ds hd
  rw[SZ] at hd
  match ds,hd with
  | [d0,d1,d2],_=>rfl
 ·intro ps hp hT
  rw[SZ] at hp hT
  match ps,hp with
  | [p0,p1,p2],_=>
    exact tY m p p0 p1 p2 (hT 0 26 p0 rfl rfl) (hT 1 31 p1 rfl rfl) (hT 2 3 p2 rfl rfl)
def yZ:DataW Unit->List Value
 | .lit (.int k n)=>[Value.int k n]
 | .agg xs=>xs.map fun x=>match x with
   | .lit (.int k n)=>Value.int k n
   | _=>Go.undef
 | _=>[]
def DG:DataW Unit->Array Value
 | .agg xs=>(xs.flatMap yZ).toArray
 | _=>#[]
def p8 (d:DataW Unit):Obj->Obj
 | .cells _ t frozen=>.cells (DG d) t frozen
 | o=>o
def Kq (d:DataW Unit):Obj:=
 match d with
 | .iface _ (.ptr (.agg [.lit (.string bs)]))=>.cells #[.string ⟨bs.toArray⟩] 278
 | _=>.cells #[] 278
def JX (k:Nat):Obj->Obj
 | .cells _ t frozen=>.cells #[.iface 276 (.pointer (some ⟨k,0,none⟩))] t frozen
 | o=>o
noncomputable def eD (os:Os):World:=
 { World.holding Tryz.prog os ⟨#[],#[],[]⟩ with heap:=((((((((((World.holding Tryz.prog os ⟨#[],#[],[]⟩).heap.push (Kq Rows.laid_strconv_ErrRange)).push (Kq Rows.laid_strconv_ErrSyntax)).modify 6 (p8 Rows.laid_math_bits_deBruijn32tab)).modify 7 (p8 Rows.laid_math_bits_deBruijn64tab)).modify 5 (p8 Rows.laid_internal_strconv_uint64pow10)).modify 4 (p8 Rows.laid_unicode_utf8_acceptRanges)).modify 2 (JX ((World.holding Tryz.prog os ⟨#[],#[],[]⟩).heap.size+0))).modify 1 (JX ((World.holding Tryz.prog os ⟨#[],#[],[]⟩).heap.size+1))).modify 3 (p8 Rows.laid_unicode_utf8_first)) }
theorem Ii (os:Os):laidMet Tryz.prog Rows.delimitedEncodesRow.laid ((eD os).forCall (fun _ _=>0) ⟨#[],#[.agg #[.int .i64 0,.int .i64 0,.int .i64 0,.int .i64 0,.slice none 0 0,.slice none 0 0,.slice none 0 0],.agg #[.int .i64 0,.int .i64 0,.int .i64 0,.string ⟨#[]⟩,.slice none 0 0,.slice none 0 0],.int .i64 0],[]⟩).memory:=
 laidMet_of_run' 8 (by kernel_rfl) (by kernel_rfl)
theorem reads (os:Os){H:Type}(enc:TypeId×Value->H):∃ places,DataW.whole enc Tryz.prog ((eD os).forCall (fun _ _=>0) ⟨#[],#[.agg #[.int .i64 0,.int .i64 0,.int .i64 0,.int .i64 0,.slice none 0 0,.slice none 0 0,.slice none 0 0],.agg #[.int .i64 0,.int .i64 0,.int .i64 0,.string ⟨#[]⟩,.slice none 0 0,.slice none 0 0],.int .i64 0],[]⟩).memory Tryz.f5.params.toList Rows.delimitedEncodesSpec.vars false (#[.agg #[.int .i64 0,.int .i64 0,.int .i64 0,.int .i64 0,.slice none 0 0,.slice none 0 0,.slice none 0 0],.agg #[.int .i64 0,.int .i64 0,.int .i64 0,.string ⟨#[]⟩,.slice none 0 0,.slice none 0 0],.int .i64 0]:Array Value).toList 8=some ([.agg [.lit (.int .i64 0),.lit (.int .i64 0),.lit (.int .i64 0),.lit (.int .i64 0),.nil,.nil,.nil],.agg [.lit (.int .i64 0),.lit (.int .i64 0),.lit (.int .i64 0),.lit (.string []),.nil,.nil],.lit (.int .i64 0)],[],places):=
 ⟨[],by kernel_rfl⟩
theorem Sm:Tryz.checked.prog.inits.idxOf? 5=none:=by kernel_rfl
theorem Sj (os:Os):World.variablesB Tryz.checked.prog ((eD os).forCall (fun _ _=>0) ⟨#[],#[.agg #[.int .i64 0,.int .i64 0,.int .i64 0,.int .i64 0,.slice none 0 0,.slice none 0 0,.slice none 0 0],.agg #[.int .i64 0,.int .i64 0,.int .i64 0,.string ⟨#[]⟩,.slice none 0 0,.slice none 0 0],.int .i64 0],[]⟩)=true:=by kernel_rfl
theorem Sk (os:Os):List.take ((begin Tryz.checked.prog (fun _ _=>0) default).world.heap.size - Tryz.checked.prog.globals.size) (List.drop Tryz.checked.prog.globals.size ((eD os).forCall (fun _ _=>0) ⟨#[],#[.agg #[.int .i64 0,.int .i64 0,.int .i64 0,.int .i64 0,.slice none 0 0,.slice none 0 0,.slice none 0 0],.agg #[.int .i64 0,.int .i64 0,.int .i64 0,.string ⟨#[]⟩,.slice none 0 0,.slice none 0 0],.int .i64 0],[]⟩).heap.toList)=List.drop Tryz.checked.prog.globals.size (begin Tryz.checked.prog (fun _ _=>0) default).world.heap.toList:=by kernel_rfl
theorem Si (os:Os):Input.okWideB Tryz.checked.prog ((eD os).forCall (fun _ _=>0) ⟨#[],#[.agg #[.int .i64 0,.int .i64 0,.int .i64 0,.int .i64 0,.slice none 0 0,.slice none 0 0,.slice none 0 0],.agg #[.int .i64 0,.int .i64 0,.int .i64 0,.string ⟨#[]⟩,.slice none 0 0,.slice none 0 0],.int .i64 0],[]⟩) 5 ⟨#[],#[.agg #[.int .i64 0,.int .i64 0,.int .i64 0,.int .i64 0,.slice none 0 0,.slice none 0 0,.slice none 0 0],.agg #[.int .i64 0,.int .i64 0,.int .i64 0,.string ⟨#[]⟩,.slice none 0 0,.slice none 0 0],.int .i64 0],[]⟩=true:=by kernel_rfl
theorem P9 (os:Os)(started:os.Started)(H:Type)(enc:TypeId×Value->H)(F:Stop.Interp) :
  ReturnsInHanded {} Tryz.checked os 5 .any ((OpenSpec.ofChange Rows.delimitedEncodesSpec).preRow enc Tryz.prog Tryz.f5 Rows.delimitedEncodesRow.domain false Rows.delimitedEncodesRow.laid) (((OpenSpec.ofChange Rows.delimitedEncodesSpec).at F).post enc Tryz.prog Tryz.f5 false true false false):=by
 obtain⟨places,hx⟩:=reads os enc
 refine returnsInHanded_of_row (C:=Tryz.checked) (s:=OpenSpec.ofChange Rows.delimitedEncodesSpec) own started Sm Tryz.func5
  (witness_row_at (enc:=enc) (C:=Tryz.checked) false (eD os) #[.agg #[.int .i64 0,.int .i64 0,.int .i64 0,.int .i64 0,.slice none 0 0,.slice none 0 0,.slice none 0 0],.agg #[.int .i64 0,.int .i64 0,.int .i64 0,.string ⟨#[]⟩,.slice none 0 0,.slice none 0 0],.int .i64 0] rfl (Sj os) (Sk os) (Si os)
   (OpenSpec.preRow_of_cond 8 hx (by kernel_rfl) (fun k hk=>by cases hk) (by kernel_rfl) (Ii os))) ?_
 intro W base args ds gs before hval hW _ _ hsz hL hS _
 exact gr H enc W base args ds gs before hval hW hsz hL hS
theorem S8:joinedFacts Tryz.pinned.checked.prog 5 Tryz.f5 (OpenSpec.ofChange Rows.delimitedEncodesSpec).bare Rows.delimitedEncodesRow=true:=by
 unfold joinedFacts
 repeat' (with_reducible refine Bool.and_eq_true_iff.2 ⟨?_,?_⟩)
 all_goals as_aux_lemma=>kernel_rfl
