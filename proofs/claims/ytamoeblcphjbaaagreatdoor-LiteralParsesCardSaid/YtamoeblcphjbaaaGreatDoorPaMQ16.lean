/- A part of the proof. -/
import Derived.Test.YtamoeblcphjbaaaGreatDoorPaMQ5
import Derived.Stop.LaidErr
import Derived.WalkKit
import Derived.Lib.LaidTab
import Derived.SevenTiedAt
import Derived.Test.YtamoeblcphjbaaaGreatDoorCards
import Derived.Test.YtamoeblcphjbaaaGreatDoorTie
set_option maxHeartbeats 16000000
set_option maxRecDepth 100000
set_option linter.unusedVariables false
set_option linter.unusedSimpArgs false
-- many steps
namespace Go.Proofs.YtamoeblcphjbaaaGreatDoor
open Go Go.Ab Go.RowKit
attribute [local irreducible] vc
theorem Aa (s:List UInt8):(fp s).1.ok:=by
 have h:=(SB (T:=270) (p:=.undef) s).1
 unfold fp Qi
 split
 ·split
  ·exact h
  split
  ·exact h
  ·exact cU
 ·exact cU
section
variable {T:Nat}{p:PV}
theorem SQ (s0:List UInt8)(hs:s0.length≤140737488355328):au Tryz.prog (bG T p) 9 [.str s0] (.bool true):=by
 have hmin:min (s0.length:Int) 500=((min s0.length 500:Nat):Int):=by omega
 obtain⟨s,hse⟩:∃ s,s=s0.take (min s0.length 500):=⟨_,rfl⟩
 have hl:s.length≤500:=by rw[hse,List.length_take];omega
 have hsl:(s0.take (min s0.length 500))=s:=hse.symm
 have hk:=toE (T:=T) (p:=p) JE
 have h18:=I5 (T:=T) (p:=p) s
 have h24:=I4 (T:=T) (p:=p) s (by omega)
 have hv:=Aa s
 generalize fp s=q at *
 obtain⟨v,n,e⟩:=q
 simp only at h18 h24 hv
 have hq:=toE (T:=T) (p:=p) (J3 _ v v (A0 v) hv hv)
 rw[decide_eq_true ((pR _ v v (A0 v)).2 rfl)] at hq
 clear hv hse hl
 obtain⟨k,m,sc,t,l,fs⟩:=v
 simp only[Val.pv_mk] at h18 h24 hq
 refine au.intro RV (by simp[F9]) ?_
 simp(disch:=try exact dI) only[F9,hmin,hsl,push_cast,seval]
 refine ab.pure h18 rfl ?_
 refine zgZ ?_
 refine ab.pure h24 rfl ?_
 refine zgZ ?_
 refine ab.pure hk rfl ?_
 refine zgZ ?_
 refine ab.pure hq rfl ?_
 exact qsZ
end
theorem z8 (q:PV)(p0:PV)(h0:HasT Tryz.prog 9 p0):au Tryz.prog (bG 270 q) 9 [p0] (.bool true):=by
 obtain⟨s,rfl,hs⟩:=FG h0 Tryz.underlying9
 exact SQ s (by omega)
open Go.Lib Go.Proofs
theorem u8X:U8Extra Tryz.prog Tryz.lays196_ren:=⟨by kernel_rfl,by kernel_rfl,by kernel_rfl,by kernel_rfl,by kernel_rfl,by kernel_rfl,by kernel_rfl⟩
theorem FI {W:World}(h1:VarReads Tryz.prog W "unicode/utf8.first" firstData) (h2:VarReads Tryz.prog W "unicode/utf8.acceptRanges" acceptData)
  (h3:VarReads Tryz.prog W "internal/strconv.uint64pow10" (tabData .u64 pow10Tab)) (h5:VarReads Tryz.prog W "math/bits.deBruijn64tab" (tabData .u8 (deBruijn64tab.map fun n:Nat=>(n:Int)))):cG aM W (np W):=by
 have hu:=utf8Tabs_of_readsT (U8Types.of196 Tryz.lays196) u8X h1 h2
 refine BA fun g hg=>?_
 unfold aM at hg ⊢
 by_cases e3:g=3
 ·subst e3
  exact lQ (t:=219) (e:=181) (m:=20) h3 (by kernel_rfl) (by kernel_rfl) (by kernel_rfl) (by kernel_rfl) (by kernel_rfl) (by kernel_rfl) (by kernel_rfl)
 rw[if_neg e3] at hg ⊢
 by_cases e1:g=0
 ·subst e1
  rw[if_pos rfl] at hg ⊢
  refine mQ (t:=159) (e:=5) (m:=256) h1 (by kernel_rfl) (by kernel_rfl) (by kernel_rfl) (by kernel_rfl) fun o p hp=>?_
  rw[P9,List.getElem?_map,Option.map_eq_some_iff] at hp
  obtain⟨c,hc,rfl⟩:=hp
  obtain⟨hlt,hcc⟩:=List.getElem?_eq_some_iff.1 hc
  simp at hlt hcc
  subst hcc
  exact⟨_,_,rfl,hu.1 o hlt⟩
 rw[if_neg e1] at hg ⊢
 by_cases e2:g=1
 ·subst e2
  rw[if_pos rfl] at hg ⊢
  refine mQ (t:=162) (e:=161) (m:=16) h2 (by kernel_rfl) (by kernel_rfl) (by kernel_rfl) (by kernel_rfl) fun o p hp=>?_
  rw[LY,List.getElem?_map,Option.map_eq_some_iff] at hp
  obtain⟨c,hc,rfl⟩:=hp
  obtain⟨hlt,hcc⟩:=List.getElem?_eq_some_iff.1 hc
  simp at hlt hcc
  subst hcc
  have:=hu.2 (o / 2) (by omega)
  by_cases ho:o % 2=0
  ·rw[if_pos ho]
   refine⟨_,_,rfl,?_⟩
   have:=this.1
   rwa [show 2*(o / 2)=o by omega] at this
  ·rw[if_neg ho]
   refine⟨_,_,rfl,?_⟩
   have:=this.2
   rwa [show 2*(o / 2)+1=o by omega] at this
 rw[if_neg e2] at hg ⊢
 by_cases e5:g=5
 ·subst e5
  rw[if_pos rfl] at hg ⊢
  have:=lQ (g:=5) (t:=257) (e:=5) (m:=64) h5 (by kernel_rfl) (by kernel_rfl) (by kernel_rfl) (by kernel_rfl) (by kernel_rfl) (by kernel_rfl) (by kernel_rfl)
  rw[List.map_map] at this
  exact this
 rw[if_neg e5] at hg
 exact absurd rfl hg
open Go.ChangeShapes
theorem MP : "*" ++ "errors.errorString" = "*errors.errorString":=by decide
theorem Nh (u:TypeId)(h:Tryz.prog.typeName? 3 u=some "*errors.errorString"):u=270:=
 typeName_ptr_named (nm:= "errors.errorString") (by rw[MP];kernel_rfl) (by kernel_rfl) (by decide) u (by rw[MP];exact h)
theorem Oo {text:List UInt8}{r:List (String×DataW Unit)}{W:World}(h:laidMet Tryz.prog (("strconv.ErrSyntax",.iface "*errors.errorString" (.ptr (.agg [.lit (.string text)])))::r) W) :
  ∃ (a:Addr) (s:ByteArray),W.var? Tryz.prog "strconv.ErrSyntax" = some #[.iface 270 (.pointer (some a))]∧W.cell? a=some (.string s)∧s.data.toList=text∧s.size≤maxLen:=
 laid_sentinel h (g:=6) (ti:=85) (te:=272) (ts:=9) (by kernel_rfl) (by kernel_rfl) Tryz.underlying85 Nh Tryz.underlying270 Tryz.underlying272 rfl rfl Tryz.underlying9 (by kernel_rfl) (by kernel_rfl)
theorem Bz {W:World}(h1:VarReads Tryz.prog W "unicode/utf8.first" firstData) (h2:VarReads Tryz.prog W "unicode/utf8.acceptRanges" acceptData)
  (h3:VarReads Tryz.prog W "internal/strconv.uint64pow10" (tabData .u64 pow10Tab)) (h5:VarReads Tryz.prog W "math/bits.deBruijn64tab" (tabData .u8 (deBruijn64tab.map fun n:Nat=>(n:Int))))
  (hE:∃ (a:Addr) (s:ByteArray),W.var? Tryz.prog "strconv.ErrSyntax" = some #[.iface 270 (.pointer (some a))]∧W.cell? a=some (.string s)):∃ p,cG (bG 270 p) W (np W):=by
 obtain⟨⟨b,o,sp⟩,s,hv,hc⟩:=hE
 have hsp:sp=none:=by
  unfold World.cell? at hc
  cases sp with
  | none=>rfl
  | some k=>split at hc<;>simp at hc
 subst hsp
 have hg:Tryz.prog.globalNamed "strconv.ErrSyntax" = some 6:=by kernel_rfl
 have hcell:W.cell? ⟨6,0,none⟩=some (.iface 270 (.pointer (some ⟨b,o,none⟩))):=by
  have:=World.var?_cell hg hv 0
  simpa using this
 have hG:=FI h1 h2 h3 h5
 refine⟨.gptr b o,fun g o' p hp=>?_,fun g hg'=>?_⟩
 ·unfold bG at hp
  by_cases e0:g=6
  ·subst e0
   rw[if_pos rfl] at hp
   cases o' with
   | zero=>cases hp;exact⟨World.block_lt_of_cell? W _ hcell,_,hcell,rfl,.iface _ _ _ (.gptr _ _)⟩
   | succ o'=>simp at hp
  ·rw[if_neg e0] at hp
   exact hG.1 g o' p hp
 ·unfold bG at hg' ⊢
  by_cases e0:g=6
  ·subst e0
   rw[if_pos rfl]
   unfold World.var? at hv
   rw[hg] at hv
   simp only[Option.bind_some] at hv
   split at hv
   ·rename_i cs T fz hh
    cases hv
    exact⟨_,T,fz,hh,rfl⟩
   ·cases hv
  ·rw[if_neg e0] at hg' ⊢
   exact hG.2 g hg'
end Go.Proofs.YtamoeblcphjbaaaGreatDoor
namespace Go.Proofs.YtamoeblcphjbaaaGreatDoor.literalParsesDone
open Go Go.Ab Go.RowKit Go.ChangeShapes Go.WideShapes Go.ChangeAt
theorem own:ownKnob Tryz.prog.godebug=none:=by kernel_rfl
theorem JD:laidOutB Tryz.prog=true:=by kernel_rfl
theorem Rm {W:World}(h:laidMetH Tryz.prog Rows.literalParsesRow.laid W):∃ p,cG (bG 270 p) W (np W):=by
 have h':laidMet Tryz.prog Rows.literalParsesRow.laid W:=h
 obtain⟨a,s,e1,e2,_⟩:=Oo (((((h'.tail).tail).tail).tail).tail)
 exact Bz (Go.Lib.laidMet.reads h' (n:= "unicode/utf8.first") (d:=Go.Lib.firstData) (by rw[show Go.Lib.firstData=(Rows.laid_unicode_utf8_first:DataW Unit) by kernel_rfl];exact List.Mem.tail _ (List.Mem.tail _ (List.Mem.tail _ (List.Mem.tail _ (List.Mem.tail _ (List.Mem.tail _ (List.Mem.head _))))))))
  (Go.Lib.laidMet.reads h' (n:= "unicode/utf8.acceptRanges") (d:=Go.Lib.acceptData) (by rw[show Go.Lib.acceptData=(Rows.laid_unicode_utf8_acceptRanges:DataW Unit) by kernel_rfl];exact List.Mem.tail _ (List.Mem.tail _ (List.Mem.tail _ (List.Mem.head _)))))
  (Go.Lib.laidMet.reads h' (n:= "internal/strconv.uint64pow10") (d:=(Go.Lib.tabData .u64 Go.Lib.pow10Tab)) (by rw[show (Go.Lib.tabData .u64 Go.Lib.pow10Tab)=(Rows.laid_internal_strconv_uint64pow10:DataW Unit) by kernel_rfl];exact List.Mem.tail _ (List.Mem.tail _ (List.Mem.head _))))
  (Go.Lib.laidMet.reads h' (n:= "math/bits.deBruijn64tab") (d:=(Go.Lib.tabData .u8 (Go.Lib.deBruijn64tab.map fun n:Nat=>(n:Int)))) (by rw[show (Go.Lib.tabData .u8 (Go.Lib.deBruijn64tab.map fun n:Nat=>(n:Int)))=(Rows.laid_math_bits_deBruijn64tab:DataW Unit) by kernel_rfl];exact List.Mem.tail _ (List.Mem.head _)))
  ⟨a,s,e1,e2⟩
theorem Ri:Tryz.f9.params = #[9]:=by kernel_rfl
theorem jN (H:Type)(enc:TypeId×Value→H)(W:World)(base:Nat)(args:Array Value)(ds gs:List (DataW H))(before:List MemPlace)
  (hval:∀ (j:Nat) t v,Tryz.f9.params[j]? = some t→args[j]? = some v→Value.okWide Tryz.prog W .any base t v)
  (hW:DataW.Whole enc Tryz.prog Tryz.f9.params.toList Rows.literalParsesSpec.vars false W args.toList ds gs before) (hsz:(DataW.weightsEach Tryz.prog (Tryz.f9.params.toList++Rows.literalParsesSpec.plain.varTypes Tryz.prog) (ds++gs)).all (·≤reachBytes)=true) (hL:laidMetH Tryz.prog Rows.literalParsesRow.laid W) :
  Calls Tryz.prog 9 args W fun e W'=>∃ v,e = .returned v∧Rows.literalParsesSpec.post enc Tryz.prog Tryz.f9 false true false false W args v W':=by
 obtain⟨p,hp0⟩:=Rm hL
 refine Ft (ts:=[9,4]) (tb:=4) (G:=bG 270 p) rfl JD (by decide +kernel) (by kernel_rfl) (by decide +kernel) (by kernel_rfl) (by kernel_rfl) ?_ hval hW hsz hp0 ?_
 ·intro ds hd
  rw[Ri] at hd
  match ds,hd with
  | [d0],_=>rfl
 ·intro ps hp hT
  rw[Ri] at hp hT
  match ps,hp with
  | [p0],_=>
    exact z8 p p0 (hT 0 9 p0 rfl rfl)
def wz:DataW Unit→List Value
 | .lit (.int k n)=>[Value.int k n]
 | .agg xs=>xs.map fun x=>match x with
   | .lit (.int k n)=>Value.int k n
   | _=>Go.undef
 | _=>[]
def A9:DataW Unit→Array Value
 | .agg xs=>(xs.flatMap wz).toArray
 | _=>#[]
def ov (d:DataW Unit):Obj→Obj
 | .cells _ t frozen=>.cells (A9 d) t frozen
 | o=>o
def Hq (d:DataW Unit):Obj:=
 match d with
 | .iface _ (.ptr (.agg [.lit (.string bs)]))=>.cells #[.string ⟨bs.toArray⟩] 272
 | _=>.cells #[] 272
def GN (k:Nat):Obj→Obj
 | .cells _ t frozen=>.cells #[.iface 270 (.pointer (some ⟨k,0,none⟩))] t frozen
 | o=>o
noncomputable def ek (os:Os):World:=
 { World.holding Tryz.prog os ⟨#[],#[],[]⟩ with heap:=((((((((((World.holding Tryz.prog os ⟨#[],#[],[]⟩).heap.push (Hq Rows.laid_strconv_ErrRange)).push (Hq Rows.laid_strconv_ErrSyntax)).modify 4 (ov Rows.laid_math_bits_deBruijn32tab)).modify 5 (ov Rows.laid_math_bits_deBruijn64tab)).modify 3 (ov Rows.laid_internal_strconv_uint64pow10)).modify 1 (ov Rows.laid_unicode_utf8_acceptRanges)).modify 7 (GN ((World.holding Tryz.prog os ⟨#[],#[],[]⟩).heap.size+0))).modify 6 (GN ((World.holding Tryz.prog os ⟨#[],#[],[]⟩).heap.size+1))).modify 0 (ov Rows.laid_unicode_utf8_first)) }
theorem Fu (os:Os):laidMet Tryz.prog Rows.literalParsesRow.laid ((ek os).forCall (fun _ _=>0) ⟨#[],#[.string ⟨#[]⟩],[]⟩).memory:=
 laidMet_of_run' 8 (by kernel_rfl) (by kernel_rfl)
theorem reads (os:Os){H:Type}(enc:TypeId×Value→H):∃ places,DataW.whole enc Tryz.prog ((ek os).forCall (fun _ _=>0) ⟨#[],#[.string ⟨#[]⟩],[]⟩).memory Tryz.f9.params.toList Rows.literalParsesSpec.vars false (#[.string ⟨#[]⟩]:Array Value).toList 8=some ([.lit (.string [])],[],places):=
 ⟨[],by kernel_rfl⟩
theorem Qz:Tryz.checked.prog.inits.idxOf? 9=none:=by kernel_rfl
theorem Qx (os:Os):World.variablesB Tryz.checked.prog ((ek os).forCall (fun _ _=>0) ⟨#[],#[.string ⟨#[]⟩],[]⟩)=true:=by kernel_rfl
theorem Qy (os:Os):List.take ((begin Tryz.checked.prog (fun _ _=>0) default).world.heap.size - Tryz.checked.prog.globals.size) (List.drop Tryz.checked.prog.globals.size ((ek os).forCall (fun _ _=>0) ⟨#[],#[.string ⟨#[]⟩],[]⟩).heap.toList)=List.drop Tryz.checked.prog.globals.size (begin Tryz.checked.prog (fun _ _=>0) default).world.heap.toList:=by kernel_rfl
theorem Qw (os:Os):Input.okWideB Tryz.checked.prog ((ek os).forCall (fun _ _=>0) ⟨#[],#[.string ⟨#[]⟩],[]⟩) 9 ⟨#[],#[.string ⟨#[]⟩],[]⟩=true:=by kernel_rfl
theorem NV (os:Os)(started:os.Started)(H:Type)(enc:TypeId×Value→H)(F:Stop.Interp) :
  ReturnsInHanded {} Tryz.checked os 9 .any ((OpenSpec.ofChange Rows.literalParsesSpec).preRow enc Tryz.prog Tryz.f9 Rows.literalParsesRow.domain false Rows.literalParsesRow.laid) (((OpenSpec.ofChange Rows.literalParsesSpec).at F).post enc Tryz.prog Tryz.f9 false true false false):=by
 obtain⟨places,hx⟩:=reads os enc
 refine returnsInHanded_of_row (C:=Tryz.checked) (s:=OpenSpec.ofChange Rows.literalParsesSpec) own started Qz Tryz.func9
  (witness_row_at (enc:=enc) (C:=Tryz.checked) false (ek os) #[.string ⟨#[]⟩] rfl (Qx os) (Qy os) (Qw os)
   (OpenSpec.preRow_of_cond 8 hx (by kernel_rfl) (fun k hk=>by cases hk) (by kernel_rfl) (Fu os))) ?_
 intro W base args ds gs before hval hW _ _ hsz hL _ _
 exact jN H enc W base args ds gs before hval hW hsz hL
theorem Rq:joinedFacts Tryz.pinned.checked.prog 9 Tryz.f9 (OpenSpec.ofChange Rows.literalParsesSpec).bare Rows.literalParsesRow=true:=by
 unfold joinedFacts
 repeat' (with_reducible refine Bool.and_eq_true_iff.2 ⟨?_,?_⟩)
 all_goals as_aux_lemma=>kernel_rfl
end Go.Proofs.YtamoeblcphjbaaaGreatDoor.literalParsesDone
