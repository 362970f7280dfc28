/- A part of the proof for LiteralTextsCardSaid. -/
import Derived.Test.YtamoeblcphjbaaaGreatDoorTxL18
import Derived.Test.YtamoeblcphjbaaaGreatDoorTxLSh
import Derived.Test.YtamoeblcphjbaaaGreatDoorCore6
import Derived.Stop.LaidErr
import Derived.WalkKit
import Derived.Lib.LaidTab
import Derived.SevenTiedAt
import Derived.Test.YtamoeblcphjbaaaGreatDoorCards
import Derived.Test.YtamoeblcphjbaaaGreatDoorTie
set_option maxRecDepth 100000
set_option linter.unusedVariables false
set_option linter.unusedSimpArgs false
-- many steps
namespace Go.Proofs.YtamoeblcphjbaaaGreatDoor
open Go Go.Ab Go.RowKit
attribute [local irreducible] vc
def sC (n:Nat)(v:Val):Bool:=decide (eA n v≤12)&&decide (iC n v≤400)
theorem Cw (n:Nat)(v:Val)(h:m8 n v)(hv:v.ok):aw Tryz.prog aD 13 [v.pv] (.bool (sC n v)):=by
 have h34:=mS n v h hv
 have h35:=sE n v h hv
 unfold sC
 generalize eA n v=D at *
 generalize iC n v=S at *
 obtain⟨k,m,s,t,l,fs⟩:=v
 simp only[Val.pv_mk] at h34 h35 ⊢
 refine aw.intro HN (by simp[F13]) ?_
 by_cases hD:D≤12
 ·by_cases hS:S≤400
  ·rw[decide_eq_true hD,decide_eq_true hS]
   simp(maxSteps:=9^7) (disch:=first|exact dI|fail) only[F13,push_cast,seval]
   refine ae.pure h34 rfl ?_
   simp(maxSteps:=9^7) (disch:=first|exact dI|fail) only[hD,push_cast,seval]
   refine ae.pure h35 rfl ?_
   simp(maxSteps:=9^7) (disch:=first|exact dI|fail) only[hS,push_cast,seval]
  ·rw[decide_eq_true hD,decide_eq_false hS]
   simp(maxSteps:=9^7) (disch:=first|exact dI|fail) only[F13,push_cast,seval]
   refine ae.pure h34 rfl ?_
   simp(maxSteps:=9^7) (disch:=first|exact dI|fail) only[hD,push_cast,seval]
   refine ae.pure h35 rfl ?_
   simp(maxSteps:=9^7) (disch:=first|exact dI|fail) only[hS,push_cast,seval]
 ·rw[decide_eq_false hD,Bool.false_and]
  simp(maxSteps:=9^7) (disch:=first|exact dI|fail) only[F13,push_cast,seval]
  refine ae.pure h34 rfl ?_
  simp(maxSteps:=9^7) (disch:=first|exact dI|fail) only[hD,push_cast,seval]
theorem Jn (v:Val)(hv:v.ok):aw Tryz.prog aD 3 [v.pv] (.bool true):=by
 obtain⟨n,hn⟩:=m7 v
 obtain⟨f,rfl⟩:∃ f,n=f+1:=by cases n with
  | zero=>exact hn.elim
  | succ f=>exact⟨f,rfl⟩
 have hd:=iY (f+1) v hn
 have hk:=DR
 have hsm:=Cw (f+1) v hn hv
 have h14:=E3 hd hv
 have h15:=fB (f+1) v hd hv
 have h16:=l7 v
 have hb:=Ji hd
 have hL:i1 0 (aX (f+1) 1 v)=0∨bt v=true→(aq (f+1) v).length≤100000000:=fun h=>by
  rcases h with h | h
  ·obtain⟨hg,hc⟩:=vq h
   have:=d7 (f+1) 1 v hd hg;omega
  ·have hk:=jU h
   obtain⟨k,n,s,t,l,fs⟩:=v
   simp only[Val.kind] at hk
   subst hk
   rw[show aq (f+1) (.mk 0 n s t l fs)=[110,117,108,108] from rfl];simp
 generalize i1 0 (aX (f+1) 1 v)=c at *
 unfold FX FY at h14
 generalize aq (f+1) v=X at *
 generalize bt v=b at *
 generalize sC (f+1) v=sm at *
 clear hd hn hv
 obtain⟨k,m,s,t,l,fs⟩:=v
 simp only[Val.pv_mk] at h14 h15 h16 hb hsm ⊢
 refine aw.intro I3 (by simp[F3]) ?_
 cases sm with
 | false=>
   simp(maxSteps:=9^7) (disch:=first|exact dI|fail) only[F3,push_cast,seval]
   refine ae.pure hk rfl ?_
   simp(maxSteps:=9^7) (disch:=first|exact dI|fail) only[push_cast,seval]
   refine ae.pure hsm rfl ?_
   simp(maxSteps:=9^7) (disch:=first|exact dI|fail) only[push_cast,seval]
   refine ae.pure hk rfl ?_
   simp(maxSteps:=9^7) (disch:=first|exact dI|fail) only[push_cast,seval]
 | true=>
   by_cases hc:c=0∨b=true
   ·have h17:=(hb hc).2
    have hl:=hL hc
    rw[if_pos hc] at h14
    by_cases hx:65536<X.length
    ·have hxI:(65536:Int)<(X.length:Int):=by omega
     rw[if_pos hx,if_pos hx] at h14
     simp(maxSteps:=9^7) (disch:=first|exact dI|fail) only[F3,push_cast,seval]
     refine ae.pure hk rfl ?_
     simp(maxSteps:=9^7) (disch:=first|exact dI|fail) only[push_cast,seval]
     refine ae.pure hsm rfl ?_
     simp(maxSteps:=9^7) (disch:=first|exact dI|fail) only[push_cast,seval]
     refine ae.pure h14 rfl ?_
     simp(maxSteps:=9^7) (disch:=first|exact dI|fail) only[push_cast,seval]
     refine ae.pure h15 rfl ?_
     by_cases h0:c=0
     ·simp(maxSteps:=9^7) (disch:=first|exact dI|fail) only[h0,push_cast,seval]
      refine ae.pure h17 rfl ?_
      simp(maxSteps:=9^7) (disch:=first|exact dI|fail) only[hxI,push_cast,seval]
     ·have hbt:b=true:=hc.resolve_left h0
      subst hbt
      simp(maxSteps:=9^7) (disch:=first|exact dI|fail) only[h0,push_cast,seval]
      refine ae.pure h16 rfl ?_
      simp(maxSteps:=9^7) (disch:=first|exact dI|fail) only[push_cast,seval]
      refine ae.pure h17 rfl ?_
      simp(maxSteps:=9^7) (disch:=first|exact dI|fail) only[hxI,push_cast,seval]
    ·have hxI:¬ (65536:Int)<(X.length:Int):=by omega
     rw[if_neg hx,if_neg hx] at h14
     simp(maxSteps:=9^7) (disch:=first|exact dI|fail) only[F3,push_cast,seval]
     refine ae.pure hk rfl ?_
     simp(maxSteps:=9^7) (disch:=first|exact dI|fail) only[push_cast,seval]
     refine ae.pure hsm rfl ?_
     simp(maxSteps:=9^7) (disch:=first|exact dI|fail) only[push_cast,seval]
     refine ae.pure h14 rfl ?_
     simp(maxSteps:=9^7) (disch:=first|exact dI|fail) only[push_cast,seval]
     refine ae.pure h15 rfl ?_
     by_cases h0:c=0
     ·simp(maxSteps:=9^7) (disch:=first|exact dI|fail) only[h0,push_cast,seval]
      refine ae.pure h17 rfl ?_
      simp(maxSteps:=9^7) (disch:=first|exact dI|fail) only[hxI,push_cast,seval]
     ·have hbt:b=true:=hc.resolve_left h0
      subst hbt
      simp(maxSteps:=9^7) (disch:=first|exact dI|fail) only[h0,push_cast,seval]
      refine ae.pure h16 rfl ?_
      simp(maxSteps:=9^7) (disch:=first|exact dI|fail) only[push_cast,seval]
      refine ae.pure h17 rfl ?_
      simp(maxSteps:=9^7) (disch:=first|exact dI|fail) only[hxI,push_cast,seval]
   ·have h0:¬ c=0:=fun h=>hc (.inl h)
    have hbf:b=false:=by cases b with
     | true=>exact absurd (.inr rfl) hc
     | false=>rfl
    subst hbf
    rw[if_neg hc] at h14
    simp(maxSteps:=9^7) (disch:=first|exact dI|fail) only[F3,push_cast,seval]
    refine ae.pure hk rfl ?_
    simp(maxSteps:=9^7) (disch:=first|exact dI|fail) only[push_cast,seval]
    refine ae.pure hsm rfl ?_
    simp(maxSteps:=9^7) (disch:=first|exact dI|fail) only[push_cast,seval]
    refine ae.pure h14 rfl ?_
    simp(maxSteps:=9^7) (disch:=first|exact dI|fail) only[push_cast,seval]
    refine ae.pure h15 rfl ?_
    simp(maxSteps:=9^7) (disch:=first|exact dI|fail) only[h0,push_cast,seval]
    refine ae.pure h16 rfl ?_
    simp(maxSteps:=9^7) (disch:=first|exact dI|fail) only[push_cast,seval]
end Go.Proofs.YtamoeblcphjbaaaGreatDoor
namespace Go.Proofs.YtamoeblcphjbaaaGreatDoor
open Go Go.Ab
theorem xB (p0:PV)(h0:HasT Tryz.prog 25 p0):aw Tryz.prog aD 3 [p0] (.bool true):=by
 obtain⟨v,rfl,hv⟩:=Ai h0
 exact Jn v hv
end Go.Proofs.YtamoeblcphjbaaaGreatDoor
set_option maxRecDepth 100000
namespace Go.Proofs.YtamoeblcphjbaaaGreatDoor
open Go Go.Ab Go.Lib Go.Proofs
theorem u8X:U8Extra Tryz.prog Tryz.lays196_ren:=⟨by kernel_rfl,by kernel_rfl,by kernel_rfl,by kernel_rfl,by kernel_rfl,by kernel_rfl,by kernel_rfl⟩
theorem Aj {W:World}(h1:VarReads Tryz.prog W "unicode/utf8.first" firstData) (h2:VarReads Tryz.prog W "unicode/utf8.acceptRanges" acceptData)
  (h3:VarReads Tryz.prog W "internal/strconv.uint64pow10" (tabData .u64 pow10Tab)) (h5:VarReads Tryz.prog W "math/bits.deBruijn64tab" (tabData .u8 (deBruijn64tab.map fun n:Nat=>(n:Int)))):bT aD W (ko W):=by
 have hu:=utf8Tabs_of_readsT (U8Types.of196 Tryz.lays196) u8X h1 h2
 refine vt fun g hg=>?_
 unfold aD at hg ⊢
 by_cases e3:g=3
 ·subst e3
  exact gR (t:=219) (e:=181) (m:=20) h3 (by kernel_rfl) (by kernel_rfl) (by kernel_rfl) (by kernel_rfl) (by kernel_rfl) (by kernel_rfl) (by kernel_rfl)
 rw[if_neg e3] at hg ⊢
 by_cases e1:g=0
 ·subst e1
  rw[if_pos rfl] at hg ⊢
  refine iB (t:=159) (e:=5) (m:=256) h1 (by kernel_rfl) (by kernel_rfl) (by kernel_rfl) (by kernel_rfl) fun o p hp=>?_
  rw[HO,List.getElem?_map,Option.map_eq_some_iff] at hp
  obtain⟨c,hc,rfl⟩:=hp
  obtain⟨hlt,hcc⟩:=List.getElem?_eq_some_iff.1 hc
  simp at hlt hcc
  subst hcc
  exact⟨_,_,rfl,hu.1 o hlt⟩
 rw[if_neg e1] at hg ⊢
 by_cases e2:g=1
 ·subst e2
  rw[if_pos rfl] at hg ⊢
  refine iB (t:=162) (e:=161) (m:=16) h2 (by kernel_rfl) (by kernel_rfl) (by kernel_rfl) (by kernel_rfl) fun o p hp=>?_
  rw[EN,List.getElem?_map,Option.map_eq_some_iff] at hp
  obtain⟨c,hc,rfl⟩:=hp
  obtain⟨hlt,hcc⟩:=List.getElem?_eq_some_iff.1 hc
  simp at hlt hcc
  subst hcc
  have:=hu.2 (o / 2) (by omega)
  by_cases ho:o % 2=0
  ·rw[if_pos ho]
   refine⟨_,_,rfl,?_⟩
   have:=this.1
   rwa [show 2*(o / 2)=o by omega] at this
  ·rw[if_neg ho]
   refine⟨_,_,rfl,?_⟩
   have:=this.2
   rwa [show 2*(o / 2)+1=o by omega] at this
 rw[if_neg e2] at hg ⊢
 by_cases e5:g=5
 ·subst e5
  rw[if_pos rfl] at hg ⊢
  have:=gR (g:=5) (t:=257) (e:=5) (m:=64) h5 (by kernel_rfl) (by kernel_rfl) (by kernel_rfl) (by kernel_rfl) (by kernel_rfl) (by kernel_rfl) (by kernel_rfl)
  rw[List.map_map] at this
  exact this
 rw[if_neg e5] at hg
 exact absurd rfl hg
end Go.Proofs.YtamoeblcphjbaaaGreatDoor
set_option maxRecDepth 100000
set_option linter.unusedVariables false
set_option linter.unusedSimpArgs false
namespace Go.Proofs.YtamoeblcphjbaaaGreatDoor.literalTextsDone
open Go Go.Ab Go.RowKit Go.ChangeShapes Go.WideShapes Go.ChangeAt
theorem own:ownKnob Tryz.prog.godebug=none:=by kernel_rfl
theorem DQ:laidOutB Tryz.prog=true:=by kernel_rfl
theorem Iv {W:World}(h:laidMetH Tryz.prog Rows.literalTextsRow.laid W):bT aD W (ko W):=by
 have h':laidMet Tryz.prog Rows.literalTextsRow.laid W:=h
 exact Aj (Go.Lib.laidMet.reads h' (n:= "unicode/utf8.first") (d:=Go.Lib.firstData) (by rw[show Go.Lib.firstData=(Rows.laid_unicode_utf8_first:DataW Unit) by kernel_rfl];exact List.Mem.tail _ (List.Mem.tail _ (List.Mem.tail _ (List.Mem.tail _ (List.Mem.tail _ (List.Mem.tail _ (List.Mem.head _))))))))
  (Go.Lib.laidMet.reads h' (n:= "unicode/utf8.acceptRanges") (d:=Go.Lib.acceptData) (by rw[show Go.Lib.acceptData=(Rows.laid_unicode_utf8_acceptRanges:DataW Unit) by kernel_rfl];exact List.Mem.tail _ (List.Mem.tail _ (List.Mem.tail _ (List.Mem.head _)))))
  (Go.Lib.laidMet.reads h' (n:= "internal/strconv.uint64pow10") (d:=(Go.Lib.tabData .u64 Go.Lib.pow10Tab)) (by rw[show (Go.Lib.tabData .u64 Go.Lib.pow10Tab)=(Rows.laid_internal_strconv_uint64pow10:DataW Unit) by kernel_rfl];exact List.Mem.tail _ (List.Mem.tail _ (List.Mem.head _))))
  (Go.Lib.laidMet.reads h' (n:= "math/bits.deBruijn64tab") (d:=(Go.Lib.tabData .u8 (Go.Lib.deBruijn64tab.map fun n:Nat=>(n:Int)))) (by rw[show (Go.Lib.tabData .u8 (Go.Lib.deBruijn64tab.map fun n:Nat=>(n:Int)))=(Rows.laid_math_bits_deBruijn64tab:DataW Unit) by kernel_rfl];exact List.Mem.tail _ (List.Mem.head _)))
theorem Iu:Tryz.f3.params = #[25]:=by kernel_rfl
theorem n6 (H:Type)(enc:TypeId×Value→H)(W:World)(base:Nat)(args:Array Value)(ds gs:List (DataW H))(before:List MemPlace)
  (hval:∀ (j:Nat) t v,Tryz.f3.params[j]? = some t→args[j]? = some v→Value.okWide Tryz.prog W .any base t v)
  (hW:DataW.Whole enc Tryz.prog Tryz.f3.params.toList Rows.literalTextsSpec.vars false W args.toList ds gs before) (hsz:(DataW.weightsEach Tryz.prog (Tryz.f3.params.toList++Rows.literalTextsSpec.plain.varTypes Tryz.prog) (ds++gs)).all (·≤reachBytes)=true) (hL:laidMetH Tryz.prog Rows.literalTextsRow.laid W) :
  Calls Tryz.prog 3 args W fun e W'=>∃ v,e = .returned v∧Rows.literalTextsSpec.post enc Tryz.prog Tryz.f3 false true false false W args v W':=by
 refine z6 (ts:=[25,3,9,22,23,39,4]) (tb:=4) (G:=aD) rfl DQ (by decide +kernel) (by kernel_rfl) (by decide +kernel) (by kernel_rfl) (by kernel_rfl) ?_ hval hW hsz (Iv hL) ?_
 ·intro ds hd
  rw[Iu] at hd
  match ds,hd with
  | [d0],_=>rfl
 ·intro ps hp hT
  rw[Iu] at hp hT
  match ps,hp with
  | [p0],_=>
    exact xB p0 (hT 0 25 p0 rfl rfl)
def qj:DataW Unit→List Value
 | .lit (.int k n)=>[Value.int k n]
 | .agg xs=>xs.map fun x=>match x with
   | .lit (.int k n)=>Value.int k n
   | _=>Go.undef
 | _=>[]
def uV:DataW Unit→Array Value
 | .agg xs=>(xs.flatMap qj).toArray
 | _=>#[]
def jw (d:DataW Unit):Obj→Obj
 | .cells _ t frozen=>.cells (uV d) t frozen
 | o=>o
def BS (d:DataW Unit):Obj:=
 match d with
 | .iface _ (.ptr (.agg [.lit (.string bs)]))=>.cells #[.string ⟨bs.toArray⟩] 272
 | _=>.cells #[] 272
def Bq (k:Nat):Obj→Obj
 | .cells _ t frozen=>.cells #[.iface 270 (.pointer (some ⟨k,0,none⟩))] t frozen
 | o=>o
noncomputable def cp (os:Os):World:=
 { World.holding Tryz.prog os ⟨#[],#[],[]⟩ with heap:=((((((((((World.holding Tryz.prog os ⟨#[],#[],[]⟩).heap.push (BS Rows.laid_strconv_ErrRange)).push (BS Rows.laid_strconv_ErrSyntax)).modify 4 (jw Rows.laid_math_bits_deBruijn32tab)).modify 5 (jw Rows.laid_math_bits_deBruijn64tab)).modify 3 (jw Rows.laid_internal_strconv_uint64pow10)).modify 1 (jw Rows.laid_unicode_utf8_acceptRanges)).modify 7 (Bq ((World.holding Tryz.prog os ⟨#[],#[],[]⟩).heap.size+0))).modify 6 (Bq ((World.holding Tryz.prog os ⟨#[],#[],[]⟩).heap.size+1))).modify 0 (jw Rows.laid_unicode_utf8_first)) }
theorem z7 (os:Os):laidMet Tryz.prog Rows.literalTextsRow.laid ((cp os).forCall (fun _ _=>0) ⟨#[],#[.agg #[.int .i64 0,.int .i64 0,.int .i64 0,.string ⟨#[]⟩,.slice none 0 0,.slice none 0 0]],[]⟩).memory:=
 laidMet_of_run' 8 (by kernel_rfl) (by kernel_rfl)
theorem reads (os:Os){H:Type}(enc:TypeId×Value→H):∃ places,DataW.whole enc Tryz.prog ((cp os).forCall (fun _ _=>0) ⟨#[],#[.agg #[.int .i64 0,.int .i64 0,.int .i64 0,.string ⟨#[]⟩,.slice none 0 0,.slice none 0 0]],[]⟩).memory Tryz.f3.params.toList Rows.literalTextsSpec.vars false (#[.agg #[.int .i64 0,.int .i64 0,.int .i64 0,.string ⟨#[]⟩,.slice none 0 0,.slice none 0 0]]:Array Value).toList 8=some ([.agg [.lit (.int .i64 0),.lit (.int .i64 0),.lit (.int .i64 0),.lit (.string []),.nil,.nil]],[],places):=
 ⟨[],by kernel_rfl⟩
theorem H1:Tryz.checked.prog.inits.idxOf? 3=none:=by kernel_rfl
theorem HZ (os:Os):World.variablesB Tryz.checked.prog ((cp os).forCall (fun _ _=>0) ⟨#[],#[.agg #[.int .i64 0,.int .i64 0,.int .i64 0,.string ⟨#[]⟩,.slice none 0 0,.slice none 0 0]],[]⟩)=true:=by kernel_rfl
theorem H0 (os:Os):List.take ((begin Tryz.checked.prog (fun _ _=>0) default).world.heap.size - Tryz.checked.prog.globals.size) (List.drop Tryz.checked.prog.globals.size ((cp os).forCall (fun _ _=>0) ⟨#[],#[.agg #[.int .i64 0,.int .i64 0,.int .i64 0,.string ⟨#[]⟩,.slice none 0 0,.slice none 0 0]],[]⟩).heap.toList)=List.drop Tryz.checked.prog.globals.size (begin Tryz.checked.prog (fun _ _=>0) default).world.heap.toList:=by kernel_rfl
theorem HY (os:Os):Input.okWideB Tryz.checked.prog ((cp os).forCall (fun _ _=>0) ⟨#[],#[.agg #[.int .i64 0,.int .i64 0,.int .i64 0,.string ⟨#[]⟩,.slice none 0 0,.slice none 0 0]],[]⟩) 3 ⟨#[],#[.agg #[.int .i64 0,.int .i64 0,.int .i64 0,.string ⟨#[]⟩,.slice none 0 0,.slice none 0 0]],[]⟩=true:=by kernel_rfl
theorem FZ (os:Os)(started:os.Started)(H:Type)(enc:TypeId×Value→H)(F:Stop.Interp) :
  ReturnsInHanded {} Tryz.checked os 3 .any ((OpenSpec.ofChange Rows.literalTextsSpec).preRow enc Tryz.prog Tryz.f3 Rows.literalTextsRow.domain false Rows.literalTextsRow.laid) (((OpenSpec.ofChange Rows.literalTextsSpec).at F).post enc Tryz.prog Tryz.f3 false true false false):=by
 obtain⟨places,hx⟩:=reads os enc
 refine returnsInHanded_of_row (C:=Tryz.checked) (s:=OpenSpec.ofChange Rows.literalTextsSpec) own started H1 Tryz.func3
  (witness_row_at (enc:=enc) (C:=Tryz.checked) false (cp os) #[.agg #[.int .i64 0,.int .i64 0,.int .i64 0,.string ⟨#[]⟩,.slice none 0 0,.slice none 0 0]] rfl (HZ os) (H0 os) (HY os)
   (OpenSpec.preRow_of_cond 8 hx (by kernel_rfl) (fun k hk=>by cases hk) (by kernel_rfl) (z7 os))) ?_
 intro W base args ds gs before hval hW _ _ hsz hL _ _
 exact n6 H enc W base args ds gs before hval hW hsz hL
end Go.Proofs.YtamoeblcphjbaaaGreatDoor.literalTextsDone
set_option maxRecDepth 100000
set_option linter.unusedVariables false
set_option linter.unusedSimpArgs false
namespace Go.Proofs.YtamoeblcphjbaaaGreatDoor.literalTextsDone
open Go Go.Ab Go.RowKit Go.ChangeShapes Go.WideShapes Go.ChangeAt
set_option maxHeartbeats 100000000 in
theorem Iz:joinedFacts Tryz.pinned.checked.prog 3 Tryz.f3 (OpenSpec.ofChange Rows.literalTextsSpec).bare Rows.literalTextsRow=true:=by
 unfold joinedFacts
 repeat' (with_reducible refine Bool.and_eq_true_iff.2 ⟨?_,?_⟩)
 all_goals as_aux_lemma=>kernel_rfl
end Go.Proofs.YtamoeblcphjbaaaGreatDoor.literalTextsDone
