/- A part of the proof. -/
import Derived.Test.YtbojpfpliibfbaaGreatDoorDeRX15
import Derived.Stop.LaidErr
import Derived.WalkKit
import Derived.Lib.LaidTab
import Derived.SevenTiedAt
import Derived.Test.YtbojpfpliibfbaaGreatDoorCards
import Derived.Test.YtbojpfpliibfbaaGreatDoorTie
set_option maxHeartbeats 16000000
set_option maxRecDepth 100000
set_option linter.unusedVariables false
set_option linter.unusedSimpArgs false
namespace Go.Proofs.YtbojpfpliibfbaaGreatDoor
open Go Go.Ab
attribute [local irreducible] vc
theorem I6 (s:List UInt8)(hs:s.length<=140737488351232):ak Tryz.prog ap 16 [.str s] (.str (s.take 10000)):=by
 have hm:(min (s.length:Int) 10000).toNat=min s.length 10000:=by omega
 have ht:s.take (min s.length 10000)=s.take 10000:=by
  by_cases h:s.length<=10000
  ·rw[Nat.min_eq_left h,List.take_length,List.take_of_length_le h]
  ·rw[Nat.min_eq_right (by omega)]
 refine ak.intro Q16.2 (by simp[Q16]) ?_
 simp(disch:=try exact dI) only[Q16,hm,ht,push_cast,seval]
theorem SN {T:Nat}{p:PV}(t:Typ)(ht:t.ok)(w0:List Int)(s0:List UInt8)(hs0:s0.length<=140737488351232):ak Tryz.prog (d6 T p) 5 [t.pv,.list (bX w0),.str s0] (.bool true):=by
 have hk:=toE (T:=T) (p:=p) Kv
 have hc:=toE (T:=T) (p:=p) (Rd w0)
 have hsh:=toE (T:=T) (p:=p) (I6 s0 hs0)
 have hll:(s0.take 10000).length<=1000000:=by rw[List.length_take];omega
 obtain⟨P,V,n,e,h17,h18,hnz,hVo,hP,hok⟩:=GV (T:=T) (p:=p) t ht (w0.take 70) (s0.take 10000) hll
 replace h18:=toE (T:=T) (p:=p) h18
 have h19:=(toE (T:=T) (p:=p) (KV V hVo)).nz (.cons _ _ _ _ hnz (.cons _ _ _ _ hnz .nil))
 have h20:e=0->ak Tryz.prog (d6 T p) 20 [t.pv,P,.str []] (.list []):=fun h=>by
  obtain⟨_,v,hd,hV⟩:=hok h
  obtain⟨_,_,_,h0,hfl⟩:=m9 ht hd.rep
  obtain⟨l,hl,hl0⟩:=Sr h0 ht hfl V hVo
  have hf:=K3 ht hll hd
  rw[<- hV] at hf
  rw[List.eq_nil_of_length_eq_zero (hl0.2 hf),List.map_nil] at hl
  exact (toE (T:=T) (p:=p) hl).nz (.cons _ _ _ _ (.refl _) (.cons _ _ _ _ hnz (.cons _ _ _ _ (.refl _) .nil)))
 clear hok hnz hVo
 generalize w0.take 70=w at *
 generalize s0.take 10000=s at *
 generalize bX w0=L0 at *
 generalize bX w=L1 at *
 obtain⟨k,m,M,sc,wd,el,f⟩:=t
 simp only[Typ.pv_mk] at h17 h18 h20 ⊢
 refine ak.intro Q5.2 (by simp[Q5]) ?_
 simp(disch:=try exact dI) only[Q5,Typ.pv_mk,push_cast,seval]
 refine ab.pure hc rfl ?_
 refine zgZ ?_
 refine ab.pure hsh rfl ?_
 refine zgZ ?_
 refine ab.pure h17 rfl ?_
 rcases hP with rfl | ⟨L,rfl⟩
 all_goals
  simp only[cl,zL] at h18 h19 h20 ⊢
  refine zgZ ?_
  refine ab.pure h18 rfl ?_
  refine zgZ ?_
  refine ab.pure hk rfl ?_
  refine zgZ ?_
  refine ab.pure h19 rfl ?_
  refine zgZ ?_
  by_cases he:e=0
  ·simp(disch:=try exact dI) only[he,push_cast,seval]
   refine ab.pure (h20 he) rfl ?_
   exact qsZ
  ·simp(disch:=try exact dI) only[he,push_cast,seval]
theorem xo (q:PV)(p0 p1 p2:PV)(h0:HasT Tryz.prog 26 p0)(h1:HasT Tryz.prog 27 p1)(h2:HasT Tryz.prog 9 p2):ak Tryz.prog (d6 297 q) 5 [p0,p1,p2] (.bool true):=by
 obtain⟨t,rfl,ht⟩:=Gk h0
 obtain⟨w,rfl,_,_⟩:=nx (f:=PV.int .i64) (Q:=I64) h1 Tryz.underlying27 Rm (fun x hx=>cy hx Tryz.underlying3)
 obtain⟨s,rfl,hs⟩:=gO h2 Tryz.underlying9
 exact SN t ht w s hs
open Go.Lib Go.Proofs
theorem u8X:U8Extra Tryz.prog Tryz.lays196_ren:=⟨by kernel_rfl,by kernel_rfl,by kernel_rfl,by kernel_rfl,by kernel_rfl,by kernel_rfl,by kernel_rfl⟩
theorem Gv {W:World}(h1:VarReads Tryz.prog W "unicode/utf8.first" firstData) (h2:VarReads Tryz.prog W "unicode/utf8.acceptRanges" acceptData)
  (h3:VarReads Tryz.prog W "internal/strconv.uint64pow10" (tabData .u64 pow10Tab)):ck ap W (nA W):=by
 have hu:=utf8Tabs_of_readsT (U8Types.of196 Tryz.lays196) u8X h1 h2
 refine BU fun g hg=>?_
 unfold ap at hg ⊢
 by_cases e3:g=3
 ·subst e3
  exact vm (t:=277) (e:=169) (m:=20) h3 (by kernel_rfl) (by kernel_rfl) (by kernel_rfl) (by kernel_rfl) (by kernel_rfl) (by kernel_rfl) (by kernel_rfl)
 rw[if_neg e3] at hg ⊢
 by_cases e1:g=1
 ·subst e1
  rw[if_pos rfl] at hg ⊢
  refine mZ (t:=245) (e:=5) (m:=256) h1 (by kernel_rfl) (by kernel_rfl) (by kernel_rfl) (by kernel_rfl) fun o p hp=>?_
  rw[PB,List.getElem?_map,Option.map_eq_some_iff] at hp
  obtain⟨c,hc,rfl⟩:=hp
  obtain⟨hlt,hcc⟩:=List.getElem?_eq_some_iff.1 hc
  simp at hlt hcc
  subst hcc
  exact⟨_,_,rfl,hu.1 o hlt⟩
 rw[if_neg e1] at hg ⊢
 by_cases e2:g=2
 ·subst e2
  rw[if_pos rfl] at hg ⊢
  refine mZ (t:=248) (e:=247) (m:=16) h2 (by kernel_rfl) (by kernel_rfl) (by kernel_rfl) (by kernel_rfl) fun o p hp=>?_
  rw[LP,List.getElem?_map,Option.map_eq_some_iff] at hp
  obtain⟨c,hc,rfl⟩:=hp
  obtain⟨hlt,hcc⟩:=List.getElem?_eq_some_iff.1 hc
  simp at hlt hcc
  subst hcc
  have:=hu.2 (o / 2) (by omega)
  by_cases ho:o % 2=0
  ·rw[if_pos ho]
   refine⟨_,_,rfl,?_⟩
   have:=this.1
   rwa [show 2*(o / 2)=o by omega] at this
  ·rw[if_neg ho]
   refine⟨_,_,rfl,?_⟩
   have:=this.2
   rwa [show 2*(o / 2)+1=o by omega] at this
 rw[if_neg e2] at hg
 exact absurd rfl hg
open Go.RowKit Go.ChangeShapes
theorem MN : "*" ++ "errors.errorString" = "*errors.errorString":=by decide
theorem M7 (u:TypeId)(h:Tryz.prog.typeName? 3 u=some "*errors.errorString"):u=297:=
 typeName_ptr_named (nm:= "errors.errorString") (by rw[MN];kernel_rfl) (by kernel_rfl) (by decide) u (by rw[MN];exact h)
theorem N5 {text:List UInt8}{r:List (String×DataW Unit)}{W:World}(h:laidMet Tryz.prog (("strconv.ErrSyntax",.iface "*errors.errorString" (.ptr (.agg [.lit (.string text)])))::r) W) :
  ∃ (a:Addr) (s:ByteArray),W.var? Tryz.prog "strconv.ErrSyntax" = some #[.iface 297 (.pointer (some a))]/\W.cell? a=some (.string s)/\s.data.toList=text/\s.size<=maxLen:=
 laid_sentinel h (g:=4) (ti:=84) (te:=299) (ts:=9) (by kernel_rfl) (by kernel_rfl) Tryz.underlying84 M7 Tryz.underlying297 Tryz.underlying299 rfl rfl Tryz.underlying9 (by kernel_rfl) (by kernel_rfl)
theorem BT {W:World}(h1:VarReads Tryz.prog W "unicode/utf8.first" firstData) (h2:VarReads Tryz.prog W "unicode/utf8.acceptRanges" acceptData)
  (h3:VarReads Tryz.prog W "internal/strconv.uint64pow10" (tabData .u64 pow10Tab))
  (hE:∃ (a:Addr) (s:ByteArray),W.var? Tryz.prog "strconv.ErrSyntax" = some #[.iface 297 (.pointer (some a))]/\W.cell? a=some (.string s)):∃ p,ck (d6 297 p) W (nA W):=by
 obtain⟨⟨b,o,sp⟩,s,hv,hc⟩:=hE
 have hsp:sp=none:=by
  unfold World.cell? at hc
  cases sp with
  | none=>rfl
  | some k=>split at hc<;>simp at hc
 subst hsp
 have hg:Tryz.prog.globalNamed "strconv.ErrSyntax" = some 4:=by kernel_rfl
 have hcell:W.cell? ⟨4,0,none⟩=some (.iface 297 (.pointer (some ⟨b,o,none⟩))):=by
  have:=World.var?_cell hg hv 0
  simpa using this
 have hG:=Gv h1 h2 h3
 refine⟨.gptr b o,fun g o' p hp=>?_,fun g hg'=>?_⟩
 ·unfold d6 at hp
  by_cases e0:g=4
  ·subst e0
   rw[if_pos rfl] at hp
   cases o' with
   | zero=>cases hp;exact⟨World.block_lt_of_cell? W _ hcell,_,hcell,rfl,.iface _ _ _ (.gptr _ _)⟩
   | succ o'=>simp at hp
  ·rw[if_neg e0] at hp
   exact hG.1 g o' p hp
 ·unfold d6 at hg' ⊢
  by_cases e0:g=4
  ·subst e0
   rw[if_pos rfl]
   unfold World.var? at hv
   rw[hg] at hv
   simp only[Option.bind_some] at hv
   split at hv
   ·rename_i cs T fz hh
    cases hv
    exact⟨_,T,fz,hh,rfl⟩
   ·cases hv
  ·rw[if_neg e0] at hg' ⊢
   exact hG.2 g hg'
end Go.Proofs.YtbojpfpliibfbaaGreatDoor
namespace Go.Proofs.YtbojpfpliibfbaaGreatDoor.fixedwidthDecodesDone
open Go Go.Ab Go.RowKit Go.ChangeShapes Go.WideShapes Go.ChangeAt
theorem own:ownKnob Tryz.prog.godebug=none:=by kernel_rfl
theorem Ku:laidOutB Tryz.prog=true:=by kernel_rfl
theorem QM {W:World}(h:laidMetH Tryz.prog Rows.fixedwidthDecodesRow.laid W):∃ p,ck (d6 297 p) W (nA W):=by
 have h':laidMet Tryz.prog Rows.fixedwidthDecodesRow.laid W:=h
 obtain⟨a,s,e1,e2,_⟩:=N5 (((((h'.tail).tail).tail).tail).tail)
 exact BT (Go.Lib.laidMet.reads h' (n:= "unicode/utf8.first") (d:=Go.Lib.firstData) (by rw[show Go.Lib.firstData=(Rows.laid_unicode_utf8_first:DataW Unit) by kernel_rfl];exact List.Mem.tail _ (List.Mem.tail _ (List.Mem.tail _ (List.Mem.tail _ (List.Mem.tail _ (List.Mem.tail _ (List.Mem.head _))))))))
  (Go.Lib.laidMet.reads h' (n:= "unicode/utf8.acceptRanges") (d:=Go.Lib.acceptData) (by rw[show Go.Lib.acceptData=(Rows.laid_unicode_utf8_acceptRanges:DataW Unit) by kernel_rfl];exact List.Mem.tail _ (List.Mem.tail _ (List.Mem.tail _ (List.Mem.head _)))))
  (Go.Lib.laidMet.reads h' (n:= "internal/strconv.uint64pow10") (d:=(Go.Lib.tabData .u64 Go.Lib.pow10Tab)) (by rw[show (Go.Lib.tabData .u64 Go.Lib.pow10Tab)=(Rows.laid_internal_strconv_uint64pow10:DataW Unit) by kernel_rfl];exact List.Mem.tail _ (List.Mem.tail _ (List.Mem.head _))))
  ⟨a,s,e1,e2⟩
theorem QK:Tryz.f5.params = #[26,27,9]:=by kernel_rfl
theorem jE (H:Type)(enc:TypeId×Value->H)(W:World)(base:Nat)(args:Array Value)(ds gs:List (DataW H))(before:List MemPlace)
  (hval:∀ (j:Nat) t v,Tryz.f5.params[j]? = some t->args[j]? = some v->Value.okWide Tryz.prog W .any base t v)
  (hW:DataW.Whole enc Tryz.prog Tryz.f5.params.toList Rows.fixedwidthDecodesSpec.vars false W args.toList ds gs before) (hsz:(DataW.weightsEach Tryz.prog (Tryz.f5.params.toList++Rows.fixedwidthDecodesSpec.plain.varTypes Tryz.prog) (ds++gs)).all (·<=reachBytes)=true) (hL:laidMetH Tryz.prog Rows.fixedwidthDecodesRow.laid W) :
  Calls Tryz.prog 5 args W fun e W'=>∃ v,e = .returned v/\Rows.fixedwidthDecodesSpec.post enc Tryz.prog Tryz.f5 false true false false W args v W':=by
 obtain⟨p,hp0⟩:=QM hL
 refine F4 (ts:=[26,3,22,9,23,24,54,33,36,34,60,27,4]) (tb:=4) (G:=d6 297 p) rfl Ku (by decide +kernel) (by kernel_rfl) (by decide +kernel) (by kernel_rfl) (by kernel_rfl) ?_ hval hW hsz hp0 ?_
 ·intro ds hd
  rw[QK] at hd
  match ds,hd with
  | [d0,d1,d2],_=>rfl
 ·intro ps hp hT
  rw[QK] at hp hT
  match ps,hp with
  | [p0,p1,p2],_=>
    exact xo p p0 p1 p2 (hT 0 26 p0 rfl rfl) (hT 1 27 p1 rfl rfl) (hT 2 9 p2 rfl rfl)
def wJ:DataW Unit->List Value
 | .lit (.int k n)=>[Value.int k n]
 | .agg xs=>xs.map fun x=>match x with
   | .lit (.int k n)=>Value.int k n
   | _=>Go.undef
 | _=>[]
def Br:DataW Unit->Array Value
 | .agg xs=>(xs.flatMap wJ).toArray
 | _=>#[]
def ot (d:DataW Unit):Obj->Obj
 | .cells _ t frozen=>.cells (Br d) t frozen
 | o=>o
def Ic (d:DataW Unit):Obj:=
 match d with
 | .iface _ (.ptr (.agg [.lit (.string bs)]))=>.cells #[.string ⟨bs.toArray⟩] 299
 | _=>.cells #[] 299
def HL (k:Nat):Obj->Obj
 | .cells _ t frozen=>.cells #[.iface 297 (.pointer (some ⟨k,0,none⟩))] t frozen
 | o=>o
noncomputable def dT (os:Os):World:=
 { World.holding Tryz.prog os ⟨#[],#[],[]⟩ with heap:=((((((((((World.holding Tryz.prog os ⟨#[],#[],[]⟩).heap.push (Ic Rows.laid_strconv_ErrRange)).push (Ic Rows.laid_strconv_ErrSyntax)).modify 6 (ot Rows.laid_math_bits_deBruijn32tab)).modify 7 (ot Rows.laid_math_bits_deBruijn64tab)).modify 3 (ot Rows.laid_internal_strconv_uint64pow10)).modify 2 (ot Rows.laid_unicode_utf8_acceptRanges)).modify 5 (HL ((World.holding Tryz.prog os ⟨#[],#[],[]⟩).heap.size+0))).modify 4 (HL ((World.holding Tryz.prog os ⟨#[],#[],[]⟩).heap.size+1))).modify 1 (ot Rows.laid_unicode_utf8_first)) }
theorem F5 (os:Os):laidMet Tryz.prog Rows.fixedwidthDecodesRow.laid ((dT os).forCall (fun _ _=>0) ⟨#[],#[.agg #[.int .i64 0,.int .i64 0,.int .i64 0,.int .i64 0,.slice none 0 0,.slice none 0 0,.slice none 0 0],.slice none 0 0,.string ⟨#[]⟩],[]⟩).memory:=
 laidMet_of_run' 8 (by kernel_rfl) (by kernel_rfl)
theorem reads (os:Os){H:Type}(enc:TypeId×Value->H):∃ places,DataW.whole enc Tryz.prog ((dT os).forCall (fun _ _=>0) ⟨#[],#[.agg #[.int .i64 0,.int .i64 0,.int .i64 0,.int .i64 0,.slice none 0 0,.slice none 0 0,.slice none 0 0],.slice none 0 0,.string ⟨#[]⟩],[]⟩).memory Tryz.f5.params.toList Rows.fixedwidthDecodesSpec.vars false (#[.agg #[.int .i64 0,.int .i64 0,.int .i64 0,.int .i64 0,.slice none 0 0,.slice none 0 0,.slice none 0 0],.slice none 0 0,.string ⟨#[]⟩]:Array Value).toList 8=some ([.agg [.lit (.int .i64 0),.lit (.int .i64 0),.lit (.int .i64 0),.lit (.int .i64 0),.nil,.nil,.nil],.nil,.lit (.string [])],[],places):=
 ⟨[],by kernel_rfl⟩
theorem Qb:Tryz.checked.prog.inits.idxOf? 5=none:=by kernel_rfl
theorem P9 (os:Os):World.variablesB Tryz.checked.prog ((dT os).forCall (fun _ _=>0) ⟨#[],#[.agg #[.int .i64 0,.int .i64 0,.int .i64 0,.int .i64 0,.slice none 0 0,.slice none 0 0,.slice none 0 0],.slice none 0 0,.string ⟨#[]⟩],[]⟩)=true:=by kernel_rfl
theorem Qa (os:Os):List.take ((begin Tryz.checked.prog (fun _ _=>0) default).world.heap.size - Tryz.checked.prog.globals.size) (List.drop Tryz.checked.prog.globals.size ((dT os).forCall (fun _ _=>0) ⟨#[],#[.agg #[.int .i64 0,.int .i64 0,.int .i64 0,.int .i64 0,.slice none 0 0,.slice none 0 0,.slice none 0 0],.slice none 0 0,.string ⟨#[]⟩],[]⟩).heap.toList)=List.drop Tryz.checked.prog.globals.size (begin Tryz.checked.prog (fun _ _=>0) default).world.heap.toList:=by kernel_rfl
theorem P8 (os:Os):Input.okWideB Tryz.checked.prog ((dT os).forCall (fun _ _=>0) ⟨#[],#[.agg #[.int .i64 0,.int .i64 0,.int .i64 0,.int .i64 0,.slice none 0 0,.slice none 0 0,.slice none 0 0],.slice none 0 0,.string ⟨#[]⟩],[]⟩) 5 ⟨#[],#[.agg #[.int .i64 0,.int .i64 0,.int .i64 0,.int .i64 0,.slice none 0 0,.slice none 0 0,.slice none 0 0],.slice none 0 0,.string ⟨#[]⟩],[]⟩=true:=by kernel_rfl
theorem NJ (os:Os)(started:os.Started)(H:Type)(enc:TypeId×Value->H)(F:Stop.Interp) :
  ReturnsInHanded {} Tryz.checked os 5 .any ((OpenSpec.ofChange Rows.fixedwidthDecodesSpec).preRow enc Tryz.prog Tryz.f5 Rows.fixedwidthDecodesRow.domain false Rows.fixedwidthDecodesRow.laid) (((OpenSpec.ofChange Rows.fixedwidthDecodesSpec).at F).post enc Tryz.prog Tryz.f5 false true false false):=by
 obtain⟨places,hx⟩:=reads os enc
 refine returnsInHanded_of_row (C:=Tryz.checked) (s:=OpenSpec.ofChange Rows.fixedwidthDecodesSpec) own started Qb Tryz.func5
  (witness_row_at (enc:=enc) (C:=Tryz.checked) false (dT os) #[.agg #[.int .i64 0,.int .i64 0,.int .i64 0,.int .i64 0,.slice none 0 0,.slice none 0 0,.slice none 0 0],.slice none 0 0,.string ⟨#[]⟩] rfl (P9 os) (Qa os) (P8 os)
   (OpenSpec.preRow_of_cond 8 hx (by kernel_rfl) (fun k hk=>by cases hk) (by kernel_rfl) (F5 os))) ?_
 intro W base args ds gs before hval hW _ _ hsz hL _ _
 exact jE H enc W base args ds gs before hval hW hsz hL
theorem QQ:joinedFacts Tryz.pinned.checked.prog 5 Tryz.f5 (OpenSpec.ofChange Rows.fixedwidthDecodesSpec).bare Rows.fixedwidthDecodesRow=true:=by
 unfold joinedFacts
 repeat' (with_reducible refine Bool.and_eq_true_iff.2 ⟨?_,?_⟩)
 all_goals as_aux_lemma=>kernel_rfl
end Go.Proofs.YtbojpfpliibfbaaGreatDoor.fixedwidthDecodesDone
