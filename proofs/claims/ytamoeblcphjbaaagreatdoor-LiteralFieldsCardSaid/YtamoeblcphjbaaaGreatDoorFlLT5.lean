/- A part of the proof for LiteralFieldsCardSaid. -/
import Derived.Test.YtamoeblcphjbaaaGreatDoorFlLC1
import Derived.Test.YtamoeblcphjbaaaGreatDoorFlCore6
import Derived.Stop.LaidErr
import Derived.Test.YtamoeblcphjbaaaGreatDoorFlLSh2
import Derived.WalkKit
import Derived.Lib.LaidTab
import Derived.SevenTiedAt
import Derived.Test.YtamoeblcphjbaaaGreatDoorFlLG3
import Derived.Test.YtamoeblcphjbaaaGreatDoorCards
import Derived.Test.YtamoeblcphjbaaaGreatDoorTie
set_option maxRecDepth 100000
namespace Go.Proofs.YtamoeblcphjbaaaGreatDoor
open Go Go.Ab Go.Lib Go.Proofs
theorem u8X:U8Extra Tryz.prog Tryz.lays196_ren:=⟨by kernel_rfl,by kernel_rfl,by kernel_rfl,by kernel_rfl,by kernel_rfl,by kernel_rfl,by kernel_rfl⟩
theorem Gh {W:World}(h1:VarReads Tryz.prog W "unicode/utf8.first" firstData) (h2:VarReads Tryz.prog W "unicode/utf8.acceptRanges" acceptData)
  (h3:VarReads Tryz.prog W "internal/strconv.uint64pow10" (tabData .u64 pow10Tab)) (h5:VarReads Tryz.prog W "math/bits.deBruijn64tab" (tabData .u8 (deBruijn64tab.map fun n:Nat=>(n:Int)))):cy aF W (nd W):=by
 have hu:=utf8Tabs_of_readsT (U8Types.of196 Tryz.lays196) u8X h1 h2
 refine BI fun g hg=>?_
 unfold aF at hg ⊢
 by_cases e3:g=3
 ·subst e3
  exact lL (t:=219) (e:=181) (m:=20) h3 (by kernel_rfl) (by kernel_rfl) (by kernel_rfl) (by kernel_rfl) (by kernel_rfl) (by kernel_rfl) (by kernel_rfl)
 rw[if_neg e3] at hg ⊢
 by_cases e1:g=0
 ·subst e1
  rw[if_pos rfl] at hg ⊢
  refine mI (t:=159) (e:=5) (m:=256) h1 (by kernel_rfl) (by kernel_rfl) (by kernel_rfl) (by kernel_rfl) fun o p hp=>?_
  rw[P0,List.getElem?_map,Option.map_eq_some_iff] at hp
  obtain⟨c,hc,rfl⟩:=hp
  obtain⟨hlt,hcc⟩:=List.getElem?_eq_some_iff.1 hc
  simp at hlt hcc
  subst hcc
  exact⟨_,_,rfl,hu.1 o hlt⟩
 rw[if_neg e1] at hg ⊢
 by_cases e2:g=1
 ·subst e2
  rw[if_pos rfl] at hg ⊢
  refine mI (t:=162) (e:=161) (m:=16) h2 (by kernel_rfl) (by kernel_rfl) (by kernel_rfl) (by kernel_rfl) fun o p hp=>?_
  rw[Ma,List.getElem?_map,Option.map_eq_some_iff] at hp
  obtain⟨c,hc,rfl⟩:=hp
  obtain⟨hlt,hcc⟩:=List.getElem?_eq_some_iff.1 hc
  simp at hlt hcc
  subst hcc
  have:=hu.2 (o / 2) (by omega)
  by_cases ho:o % 2=0
  ·rw[if_pos ho]
   refine⟨_,_,rfl,?_⟩
   have:=this.1
   rwa [show 2*(o / 2)=o by omega] at this
  ·rw[if_neg ho]
   refine⟨_,_,rfl,?_⟩
   have:=this.2
   rwa [show 2*(o / 2)+1=o by omega] at this
 rw[if_neg e2] at hg ⊢
 by_cases e5:g=5
 ·subst e5
  rw[if_pos rfl] at hg ⊢
  have:=lL (g:=5) (t:=257) (e:=5) (m:=64) h5 (by kernel_rfl) (by kernel_rfl) (by kernel_rfl) (by kernel_rfl) (by kernel_rfl) (by kernel_rfl) (by kernel_rfl)
  rw[List.map_map] at this
  exact this
 rw[if_neg e5] at hg
 exact absurd rfl hg
end Go.Proofs.YtamoeblcphjbaaaGreatDoor
namespace Go.Proofs.YtamoeblcphjbaaaGreatDoor
open Go Go.Ab Go.Lib Go.Proofs Go.RowKit Go.ChangeShapes
theorem MI : "*" ++ "errors.errorString" = "*errors.errorString":=by decide
theorem M8 (u:TypeId)(h:Tryz.prog.typeName? 3 u=some "*errors.errorString"):u=270:=
 typeName_ptr_named (nm:= "errors.errorString") (by rw[MI];kernel_rfl) (by kernel_rfl) (by decide) u (by rw[MI];exact h)
theorem N3 {text:List UInt8}{r:List (String×DataW Unit)}{W:World}(h:laidMet Tryz.prog (("strconv.ErrSyntax",.iface "*errors.errorString" (.ptr (.agg [.lit (.string text)])))::r) W) :
  ∃ (a:Addr) (s:ByteArray),W.var? Tryz.prog "strconv.ErrSyntax" = some #[.iface 270 (.pointer (some a))]∧W.cell? a=some (.string s)∧s.data.toList=text∧s.size≤maxLen:=
 laid_sentinel h (g:=6) (ti:=85) (te:=272) (ts:=9) (by kernel_rfl) (by kernel_rfl) Tryz.underlying85 M8 Tryz.underlying270 Tryz.underlying272 rfl rfl Tryz.underlying9 (by kernel_rfl) (by kernel_rfl)
theorem BH {W:World}(h1:VarReads Tryz.prog W "unicode/utf8.first" firstData) (h2:VarReads Tryz.prog W "unicode/utf8.acceptRanges" acceptData)
  (h3:VarReads Tryz.prog W "internal/strconv.uint64pow10" (tabData .u64 pow10Tab)) (h5:VarReads Tryz.prog W "math/bits.deBruijn64tab" (tabData .u8 (deBruijn64tab.map fun n:Nat=>(n:Int))))
  (hE:∃ (a:Addr) (s:ByteArray),W.var? Tryz.prog "strconv.ErrSyntax" = some #[.iface 270 (.pointer (some a))]∧W.cell? a=some (.string s)):∃ p,cy (dD 270 p) W (nd W):=by
 obtain⟨⟨b,o,sp⟩,s,hv,hc⟩:=hE
 have hsp:sp=none:=by
  unfold World.cell? at hc
  cases sp with
  | none=>rfl
  | some k=>split at hc<;>simp at hc
 subst hsp
 have hg:Tryz.prog.globalNamed "strconv.ErrSyntax" = some 6:=by kernel_rfl
 have hcell:W.cell? ⟨6,0,none⟩=some (.iface 270 (.pointer (some ⟨b,o,none⟩))):=by
  have:=World.var?_cell hg hv 0
  simpa using this
 have hG:=Gh h1 h2 h3 h5
 refine⟨.gptr b o,fun g o' p hp=>?_,fun g hg'=>?_⟩
 ·unfold dD at hp
  by_cases e0:g=6
  ·subst e0
   rw[if_pos rfl] at hp
   cases o' with
   | zero=>cases hp;exact⟨World.block_lt_of_cell? W _ hcell,_,hcell,rfl,.iface _ _ _ (.gptr _ _)⟩
   | succ o'=>simp at hp
  ·rw[if_neg e0] at hp
   exact hG.1 g o' p hp
 ·unfold dD at hg' ⊢
  by_cases e0:g=6
  ·subst e0
   rw[if_pos rfl]
   unfold World.var? at hv
   rw[hg] at hv
   simp only[Option.bind_some] at hv
   split at hv
   ·rename_i cs T fz hh
    cases hv
    exact⟨_,T,fz,hh,rfl⟩
   ·cases hv
  ·rw[if_neg e0] at hg' ⊢
   exact hG.2 g hg'
end Go.Proofs.YtamoeblcphjbaaaGreatDoor
set_option linter.unusedVariables false
set_option linter.unusedSimpArgs false
namespace Go.Proofs.YtamoeblcphjbaaaGreatDoor.literalFieldsDone
open Go Go.Ab Go.RowKit Go.ChangeShapes Go.WideShapes Go.ChangeAt
theorem own:ownKnob Tryz.prog.godebug=none:=by kernel_rfl
theorem Kb:laidOutB Tryz.prog=true:=by kernel_rfl
theorem Q9 {W:World}(h:laidMetH Tryz.prog Rows.literalFieldsRow.laid W):∃ p,cy (dD 270 p) W (nd W):=by
 have h':laidMet Tryz.prog Rows.literalFieldsRow.laid W:=h
 obtain⟨a,s,e1,e2,_⟩:=N3 (((((h'.tail).tail).tail).tail).tail)
 exact BH (Go.Lib.laidMet.reads h' (n:= "unicode/utf8.first") (d:=Go.Lib.firstData) (by rw[show Go.Lib.firstData=(Rows.laid_unicode_utf8_first:DataW Unit) by kernel_rfl];exact List.Mem.tail _ (List.Mem.tail _ (List.Mem.tail _ (List.Mem.tail _ (List.Mem.tail _ (List.Mem.tail _ (List.Mem.head _))))))))
  (Go.Lib.laidMet.reads h' (n:= "unicode/utf8.acceptRanges") (d:=Go.Lib.acceptData) (by rw[show Go.Lib.acceptData=(Rows.laid_unicode_utf8_acceptRanges:DataW Unit) by kernel_rfl];exact List.Mem.tail _ (List.Mem.tail _ (List.Mem.tail _ (List.Mem.head _)))))
  (Go.Lib.laidMet.reads h' (n:= "internal/strconv.uint64pow10") (d:=(Go.Lib.tabData .u64 Go.Lib.pow10Tab)) (by rw[show (Go.Lib.tabData .u64 Go.Lib.pow10Tab)=(Rows.laid_internal_strconv_uint64pow10:DataW Unit) by kernel_rfl];exact List.Mem.tail _ (List.Mem.tail _ (List.Mem.head _))))
  (Go.Lib.laidMet.reads h' (n:= "math/bits.deBruijn64tab") (d:=(Go.Lib.tabData .u8 (Go.Lib.deBruijn64tab.map fun n:Nat=>(n:Int)))) (by rw[show (Go.Lib.tabData .u8 (Go.Lib.deBruijn64tab.map fun n:Nat=>(n:Int)))=(Rows.laid_math_bits_deBruijn64tab:DataW Unit) by kernel_rfl];exact List.Mem.tail _ (List.Mem.head _)))
  ⟨a,s,e1,e2⟩
theorem Q7:Tryz.f6.params = #[25,37]:=by kernel_rfl
theorem jD (H:Type)(enc:TypeId×Value→H)(W:World)(base:Nat)(args:Array Value)(ds gs:List (DataW H))(before:List MemPlace)
  (hval:∀ (j:Nat) t v,Tryz.f6.params[j]? = some t→args[j]? = some v→Value.okWide Tryz.prog W .any base t v)
  (hW:DataW.Whole enc Tryz.prog Tryz.f6.params.toList Rows.literalFieldsSpec.vars false W args.toList ds gs before) (hsz:(DataW.weightsEach Tryz.prog (Tryz.f6.params.toList++Rows.literalFieldsSpec.plain.varTypes Tryz.prog) (ds++gs)).all (·≤reachBytes)=true) (hL:laidMetH Tryz.prog Rows.literalFieldsRow.laid W) :
  Calls Tryz.prog 6 args W fun e W'=>∃ v,e = .returned v∧Rows.literalFieldsSpec.post enc Tryz.prog Tryz.f6 false true false false W args v W':=by
 obtain⟨p,hp0⟩:=Q9 hL
 refine F7 (ts:=[25,3,9,22,23,39,37,5,4]) (tb:=4) (G:=dD 270 p) rfl Kb (by decide +kernel) (by kernel_rfl) (by decide +kernel) (by kernel_rfl) (by kernel_rfl) ?_ hval hW hsz hp0 ?_
 ·intro ds hd
  rw[Q7] at hd
  match ds,hd with
  | [d0,d1],_=>rfl
 ·intro ps hp hT
  rw[Q7] at hp hT
  match ps,hp with
  | [p0,p1],_=>
    exact BT p p0 p1 (hT 0 25 p0 rfl rfl) (hT 1 37 p1 rfl rfl)
def wy:DataW Unit→List Value
 | .lit (.int k n)=>[Value.int k n]
 | .agg xs=>xs.map fun x=>match x with
   | .lit (.int k n)=>Value.int k n
   | _=>Go.undef
 | _=>[]
def Bd:DataW Unit→Array Value
 | .agg xs=>(xs.flatMap wy).toArray
 | _=>#[]
def oe (d:DataW Unit):Obj→Obj
 | .cells _ t frozen=>.cells (Bd d) t frozen
 | o=>o
def HZ (d:DataW Unit):Obj:=
 match d with
 | .iface _ (.ptr (.agg [.lit (.string bs)]))=>.cells #[.string ⟨bs.toArray⟩] 272
 | _=>.cells #[] 272
def Ho (k:Nat):Obj→Obj
 | .cells _ t frozen=>.cells #[.iface 270 (.pointer (some ⟨k,0,none⟩))] t frozen
 | o=>o
noncomputable def d7 (os:Os):World:=
 { World.holding Tryz.prog os ⟨#[],#[],[]⟩ with heap:=((((((((((World.holding Tryz.prog os ⟨#[],#[],[]⟩).heap.push (HZ Rows.laid_strconv_ErrRange)).push (HZ Rows.laid_strconv_ErrSyntax)).modify 4 (oe Rows.laid_math_bits_deBruijn32tab)).modify 5 (oe Rows.laid_math_bits_deBruijn64tab)).modify 3 (oe Rows.laid_internal_strconv_uint64pow10)).modify 1 (oe Rows.laid_unicode_utf8_acceptRanges)).modify 7 (Ho ((World.holding Tryz.prog os ⟨#[],#[],[]⟩).heap.size+0))).modify 6 (Ho ((World.holding Tryz.prog os ⟨#[],#[],[]⟩).heap.size+1))).modify 0 (oe Rows.laid_unicode_utf8_first)) }
theorem F8 (os:Os):laidMet Tryz.prog Rows.literalFieldsRow.laid ((d7 os).forCall (fun _ _=>0) ⟨#[],#[.agg #[.int .i64 0,.int .i64 0,.int .i64 0,.string ⟨#[]⟩,.slice none 0 0,.slice none 0 0],.slice none 0 0],[]⟩).memory:=
 laidMet_of_run' 8 (by kernel_rfl) (by kernel_rfl)
theorem reads (os:Os){H:Type}(enc:TypeId×Value→H):∃ places,DataW.whole enc Tryz.prog ((d7 os).forCall (fun _ _=>0) ⟨#[],#[.agg #[.int .i64 0,.int .i64 0,.int .i64 0,.string ⟨#[]⟩,.slice none 0 0,.slice none 0 0],.slice none 0 0],[]⟩).memory Tryz.f6.params.toList Rows.literalFieldsSpec.vars false (#[.agg #[.int .i64 0,.int .i64 0,.int .i64 0,.string ⟨#[]⟩,.slice none 0 0,.slice none 0 0],.slice none 0 0]:Array Value).toList 8=some ([.agg [.lit (.int .i64 0),.lit (.int .i64 0),.lit (.int .i64 0),.lit (.string []),.nil,.nil],.nil],[],places):=
 ⟨[],by kernel_rfl⟩
theorem Qp:Tryz.checked.prog.inits.idxOf? 6=none:=by kernel_rfl
theorem Qn (os:Os):World.variablesB Tryz.checked.prog ((d7 os).forCall (fun _ _=>0) ⟨#[],#[.agg #[.int .i64 0,.int .i64 0,.int .i64 0,.string ⟨#[]⟩,.slice none 0 0,.slice none 0 0],.slice none 0 0],[]⟩)=true:=by kernel_rfl
theorem Qo (os:Os):List.take ((begin Tryz.checked.prog (fun _ _=>0) default).world.heap.size - Tryz.checked.prog.globals.size) (List.drop Tryz.checked.prog.globals.size ((d7 os).forCall (fun _ _=>0) ⟨#[],#[.agg #[.int .i64 0,.int .i64 0,.int .i64 0,.string ⟨#[]⟩,.slice none 0 0,.slice none 0 0],.slice none 0 0],[]⟩).heap.toList)=List.drop Tryz.checked.prog.globals.size (begin Tryz.checked.prog (fun _ _=>0) default).world.heap.toList:=by kernel_rfl
theorem Qm (os:Os):Input.okWideB Tryz.checked.prog ((d7 os).forCall (fun _ _=>0) ⟨#[],#[.agg #[.int .i64 0,.int .i64 0,.int .i64 0,.string ⟨#[]⟩,.slice none 0 0,.slice none 0 0],.slice none 0 0],[]⟩) 6 ⟨#[],#[.agg #[.int .i64 0,.int .i64 0,.int .i64 0,.string ⟨#[]⟩,.slice none 0 0,.slice none 0 0],.slice none 0 0],[]⟩=true:=by kernel_rfl
theorem NM (os:Os)(started:os.Started)(H:Type)(enc:TypeId×Value→H)(F:Stop.Interp) :
  ReturnsInHanded {} Tryz.checked os 6 .any ((OpenSpec.ofChange Rows.literalFieldsSpec).preRow enc Tryz.prog Tryz.f6 Rows.literalFieldsRow.domain false Rows.literalFieldsRow.laid) (((OpenSpec.ofChange Rows.literalFieldsSpec).at F).post enc Tryz.prog Tryz.f6 false true false false):=by
 obtain⟨places,hx⟩:=reads os enc
 refine returnsInHanded_of_row (C:=Tryz.checked) (s:=OpenSpec.ofChange Rows.literalFieldsSpec) own started Qp Tryz.func6
  (witness_row_at (enc:=enc) (C:=Tryz.checked) false (d7 os) #[.agg #[.int .i64 0,.int .i64 0,.int .i64 0,.string ⟨#[]⟩,.slice none 0 0,.slice none 0 0],.slice none 0 0] rfl (Qn os) (Qo os) (Qm os)
   (OpenSpec.preRow_of_cond 8 hx (by kernel_rfl) (fun k hk=>by cases hk) (by kernel_rfl) (F8 os))) ?_
 intro W base args ds gs before hval hW _ _ hsz hL _ _
 exact jD H enc W base args ds gs before hval hW hsz hL
end Go.Proofs.YtamoeblcphjbaaaGreatDoor.literalFieldsDone
namespace Go.Proofs.YtamoeblcphjbaaaGreatDoor.literalFieldsDone
open Go Go.Ab Go.RowKit Go.ChangeShapes Go.WideShapes Go.ChangeAt
set_option maxHeartbeats 100000000 in
theorem Rf:joinedFacts Tryz.pinned.checked.prog 6 Tryz.f6 (OpenSpec.ofChange Rows.literalFieldsSpec).bare Rows.literalFieldsRow=true:=by
 unfold joinedFacts
 repeat' (with_reducible refine Bool.and_eq_true_iff.2 ⟨?_,?_⟩)
 all_goals as_aux_lemma=>kernel_rfl
end Go.Proofs.YtamoeblcphjbaaaGreatDoor.literalFieldsDone
