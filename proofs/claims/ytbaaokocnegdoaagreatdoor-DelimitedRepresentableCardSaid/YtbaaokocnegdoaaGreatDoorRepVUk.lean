/- A part of the proof for DelimitedRepresentableCardSaid. -/
import Derived.Test.YtbaaokocnegdoaaGreatDoorRepWO
import Derived.Test.YtbaaokocnegdoaaGreatDoorRepW9
import Derived.Test.YtbaaokocnegdoaaGreatDoorRepVC2
import Derived.Test.YtbaaokocnegdoaaGreatDoorRepVSh
import Derived.Test.YtbaaokocnegdoaaGreatDoorCore6
import Derived.Stop.LaidErr
import Derived.WalkKit
import Derived.Lib.LaidTab
import Derived.SevenTiedAt
import Derived.Test.YtbaaokocnegdoaaGreatDoorCards
import Derived.Test.YtbaaokocnegdoaaGreatDoorTie
set_option maxRecDepth 100000
set_option linter.unusedVariables false
set_option linter.unusedSimpArgs false
-- many steps
namespace Go.Proofs.YtbaaokocnegdoaaGreatDoor
open Go Go.Ab
attribute [local irreducible] vc
def LF (t:Typ)(n:Int):Int:=if gD n=false then 2 else if ¬ Ht 4 t=0 then 18 else if uj t=false then 18 else 0
theorem LE (t:Typ)(n:Int)(ht:bt 4 t)(hn:aS 4 t)(hf:t.fields.length≤1000000):am Tryz.prog aE 17 [t.pv,.int .i64 n] (.int .i64 (LF t n)):=by
 have h47:=IM n
 have h48:=Jo 4 t (by omega) ht hn
 have h49:=Mg t hf
 simp only[LF]
 generalize gD n=b at *
 generalize Ht 4 t=z at *
 generalize uj t=q at *
 obtain⟨k,m,M,s,w,e,f⟩:=t
 simp only[Typ.pv_mk] at h48 h49 ⊢
 refine am.intro GS (by simp[F17]) ?_
 cases b with
 | false=>
   simp(maxSteps:=9^7) (disch:=first|exact dI|fail) only[F17,push_cast,seval]
   refine ab.pure h47 rfl ?_
   simp(maxSteps:=9^7) (disch:=first|exact dI|fail) only[push_cast,seval]
 | true=>
 rw[if_neg (show ¬ true=false by decide)]
 by_cases hz:z=0
 ·subst hz
  rw[if_neg (show ¬ ¬ (0:Int)=0 by decide)]
  simp(maxSteps:=9^7) (disch:=first|exact dI|fail) only[F17,push_cast,seval]
  refine ab.pure h47 rfl ?_
  simp(maxSteps:=9^7) (disch:=first|exact dI|fail) only[push_cast,seval]
  refine ab.pure h48 rfl ?_
  simp(maxSteps:=9^7) (disch:=first|exact dI|fail) only[push_cast,seval]
  refine ab.pure h49 rfl ?_
  cases q with
  | false=>simp(maxSteps:=9^7) (disch:=first|exact dI|fail) only[push_cast,seval]
  | true=>simp(maxSteps:=9^7) (disch:=first|exact dI|fail) only[push_cast,seval]
 ·rw[if_pos hz]
  simp(maxSteps:=9^7) (disch:=first|exact dI|fail) only[F17,push_cast,seval]
  refine ab.pure h47 rfl ?_
  simp(maxSteps:=9^7) (disch:=first|exact dI|fail) only[push_cast,seval]
  refine ab.pure h48 rfl ?_
  simp(maxSteps:=9^7) (disch:=first|exact dI|fail) only[hz,push_cast,seval]
theorem Jh (g:TFd):nB g=!(EC g.typ.kind):=by
 unfold nB EC
 by_cases h1:g.typ.kind<1
 ·rw[decide_eq_true h1,decide_eq_false (show ¬ 1≤g.typ.kind by omega)];rfl
 ·rw[decide_eq_false h1,decide_eq_true (show 1≤g.typ.kind by omega)]
  by_cases h2:7<g.typ.kind
  ·rw[decide_eq_true h2,decide_eq_false (show ¬ g.typ.kind≤7 by omega)];rfl
  ·rw[decide_eq_false h2,decide_eq_true (show g.typ.kind≤7 by omega)];rfl
theorem LD (t:Typ)(n:Int)(ht:bt 4 t)(hn:aS 4 t)(hf:t.fields.length≤1000000):am Tryz.prog aE 18 [t.pv,.int .i64 n] (.int .i64 (LF t n)):=by
 have h50:=Oo n
 have h51:=Jn 4 t (by omega) ht hn
 simp only[LF,Le]
 generalize oJ n=b at *
 generalize Ht 4 t=z at *
 generalize hq:uj t=q
 obtain⟨k,m,M,s,w,e,f⟩:=t
 simp only[Typ.fields] at hf
 simp only[uj] at hq
 simp only[Typ.pv_mk] at h51 ⊢
 refine am.intro NP (by simp[F18]) ?_
 cases b with
 | false=>
   simp(maxSteps:=9^7) (disch:=first|exact dI|fail) only[F18,push_cast,seval]
   refine ab.pure h50 rfl ?_
   simp(maxSteps:=9^7) (disch:=first|exact dI|fail) only[push_cast,seval]
 | true=>
 rw[if_neg (show ¬ true=false by decide)]
 by_cases hz:z=0
 ·subst hz
  rw[if_neg (show ¬ ¬ (0:Int)=0 by decide)]
  by_cases hk:k=9
  ·by_cases h0:0<f.length
   ·have h0I:¬ (f.length:Int)=0:=by omega
    rw[decide_eq_true hk,decide_eq_true h0,Bool.true_and,Bool.true_and] at hq
    obtain⟨R,hR⟩:∃ R,R=f.any nB:=⟨_,rfl⟩
    rw[← hR] at hq
    subst hq
    simp(maxSteps:=9^7) (disch:=first|exact dI|fail) only[F18,push_cast,seval]
    refine ab.pure h50 rfl ?_
    simp(maxSteps:=9^7) (disch:=first|exact dI|fail) only[push_cast,seval]
    refine ab.pure h51 rfl ?_
    simp(maxSteps:=9^7) (disch:=first|exact dI|fail) only[hk,h0I,push_cast,seval]
    refine aD ([]) (fun i:Nat=>[(5,.pv (.int .i64 (i:Int)))]) (fun _=>[]) (fun i=>i≤f.length∧R=(f.drop i).any nB) (fun i=>f.length - i) (0) ?_;intro e0 σ0 n0 h0;simp(maxSteps:=9^7) (disch:=first|exact dI|fail) only[push_cast,seval] at h0;obtain⟨rfl,rfl,rfl⟩:=h0;refine⟨?_,?_,?_⟩
    ·simp(maxSteps:=9^7) (disch:=first|exact dI|fail) only[push_cast,seval]
    ·exact⟨by omega,by simpa using hR⟩
    rintro i ⟨hi,hr⟩
    by_cases hlt:i<f.length
    ·have hltI:(i:Int)<(f.length:Int):=by omega
     obtain⟨g,hg⟩:∃ g,f[i]? = some g:=⟨_,List.getElem?_eq_getElem hlt⟩
     rw[gd hg,Jh] at hr
     have hs:=CE g.typ.kind
     obtain⟨n',nm',nd',⟨k',m',M',s',w',e',f'⟩,d'⟩:=g
     simp only[TFd.typ,Typ.kind] at hr hs
     generalize EC k'=q at hr hs
     simp(maxSteps:=9^7) (disch:=first|exact dI|fail) only[hg,Option.map_some,TFd.pv_mk,Typ.pv_mk,ag,push_cast,seval]
     refine ab.pure hs rfl ?_
     cases q with
     | false=>
       obtain rfl:R=true:=by simpa using hr
       simp(maxSteps:=9^7) (disch:=first|exact dI|fail) only[push_cast,seval]
     | true=>
       simp(maxSteps:=9^7) (disch:=first|exact dI|fail) only[push_cast,seval]
       exact⟨i+1,bf (by simp(maxSteps:=9^7) (disch:=first|exact dI|fail) only[push_cast,seval]),⟨by omega,by simpa using hr⟩,by omega⟩
    ·obtain rfl:i=f.length:=by omega
     rw[List.drop_length,List.any_nil] at hr
     subst hr
     simp(maxSteps:=9^7) (disch:=first|exact dI|fail) only[Int.lt_irrefl,push_cast,seval]
   ·have h0I:(f.length:Int)=0:=by omega
    rw[decide_eq_false h0,Bool.false_and,Bool.and_false] at hq
    subst hq
    simp(maxSteps:=9^7) (disch:=first|exact dI|fail) only[F18,push_cast,seval]
    refine ab.pure h50 rfl ?_
    simp(maxSteps:=9^7) (disch:=first|exact dI|fail) only[push_cast,seval]
    refine ab.pure h51 rfl ?_
    simp(maxSteps:=9^7) (disch:=first|exact dI|fail) only[hk,h0I,push_cast,seval]
  ·rw[decide_eq_false hk,Bool.false_and] at hq
   subst hq
   simp(maxSteps:=9^7) (disch:=first|exact dI|fail) only[F18,push_cast,seval]
   refine ab.pure h50 rfl ?_
   simp(maxSteps:=9^7) (disch:=first|exact dI|fail) only[push_cast,seval]
   refine ab.pure h51 rfl ?_
   simp(maxSteps:=9^7) (disch:=first|exact dI|fail) only[hk,push_cast,seval]
 ·rw[if_pos hz]
  simp(maxSteps:=9^7) (disch:=first|exact dI|fail) only[F18,push_cast,seval]
  refine ab.pure h50 rfl ?_
  simp(maxSteps:=9^7) (disch:=first|exact dI|fail) only[push_cast,seval]
  refine ab.pure h51 rfl ?_
  simp(maxSteps:=9^7) (disch:=first|exact dI|fail) only[hz,push_cast,seval]
theorem CR (t:Typ)(ht:t.ok)(n:Int):am Tryz.prog aE 4 [t.pv,.int .i64 n] (.bool true):=by
 have h11:=Hs t ht
 obtain⟨htd,hnw⟩:=iV 3 t ht
 have hfl:=sv 3 t
 have h17:=LE (bl 3 t) n htd hnw (by omega)
 have h18:=LD (bl 3 t) n htd hnw (by omega)
 generalize LF (bl 3 t) n=z at *
 generalize bl 3 t=u at *
 obtain⟨k1,a1,b1,c1,w1,e1,f1⟩:=t
 obtain⟨k2,a2,b2,c2,w2,e2,f2⟩:=u
 simp only[Typ.pv_mk] at h11 h17 h18
 refine am.intro Ph (by simp[F4]) ?_
 simp(maxSteps:=9^7) (disch:=first|exact dI|fail) only[F4,Typ.pv_mk,push_cast,seval]
 refine ab.pure h11 rfl ?_
 simp(maxSteps:=9^7) (disch:=first|exact dI|fail) only[push_cast,seval]
 refine aH Ez rfl ?_
 simp(maxSteps:=9^7) (disch:=first|exact dI|fail) only[push_cast,seval]
 refine aH h17 rfl ?_
 simp(maxSteps:=9^7) (disch:=first|exact dI|fail) only[push_cast,seval]
 refine ab.pure h18 rfl ?_
 simp(maxSteps:=9^7) (disch:=first|exact dI|fail) only[push_cast,seval]
theorem HV (p0 p1:PV)(h0:HasT Tryz.prog 26 p0)(h1:HasT Tryz.prog 3 p1):am Tryz.prog aE 4 [p0,p1] (.bool true):=by
 obtain⟨t,rfl,ht⟩:=EM h0
 obtain⟨n,rfl,hn⟩:=dz h1 Tryz.underlying3
 exact CR t ht n
end Go.Proofs.YtbaaokocnegdoaaGreatDoor
set_option maxRecDepth 100000
namespace Go.Proofs.YtbaaokocnegdoaaGreatDoor
open Go Go.Ab Go.Lib Go.Proofs
theorem u8X:U8Extra Tryz.prog Tryz.lays196_ren:=⟨by kernel_rfl,by kernel_rfl,by kernel_rfl,by kernel_rfl,by kernel_rfl,by kernel_rfl,by kernel_rfl⟩
theorem EX {W:World}(h1:VarReads Tryz.prog W "unicode/utf8.first" firstData) (h2:VarReads Tryz.prog W "unicode/utf8.acceptRanges" acceptData)
  (h3:VarReads Tryz.prog W "internal/strconv.uint64pow10" (tabData .u64 pow10Tab)):cu aE W (na W):=by
 have hu:=utf8Tabs_of_readsT (U8Types.of196 Tryz.lays196) u8X h1 h2
 refine zQ fun g hg=>?_
 unfold aE at hg ⊢
 by_cases e3:g=5
 ·subst e3
  exact r8 (t:=281) (e:=213) (m:=20) h3 (by kernel_rfl) (by kernel_rfl) (by kernel_rfl) (by kernel_rfl) (by kernel_rfl) (by kernel_rfl) (by kernel_rfl)
 rw[if_neg e3] at hg ⊢
 by_cases e1:g=3
 ·subst e1
  rw[if_pos rfl] at hg ⊢
  refine kR (t:=270) (e:=5) (m:=256) h1 (by kernel_rfl) (by kernel_rfl) (by kernel_rfl) (by kernel_rfl) fun o p hp=>?_
  rw[NW,List.getElem?_map,Option.map_eq_some_iff] at hp
  obtain⟨c,hc,rfl⟩:=hp
  obtain⟨hlt,hcc⟩:=List.getElem?_eq_some_iff.1 hc
  simp at hlt hcc
  subst hcc
  exact⟨_,_,rfl,hu.1 o hlt⟩
 rw[if_neg e1] at hg ⊢
 by_cases e2:g=4
 ·subst e2
  rw[if_pos rfl] at hg ⊢
  refine kR (t:=273) (e:=272) (m:=16) h2 (by kernel_rfl) (by kernel_rfl) (by kernel_rfl) (by kernel_rfl) fun o p hp=>?_
  rw[KM,List.getElem?_map,Option.map_eq_some_iff] at hp
  obtain⟨c,hc,rfl⟩:=hp
  obtain⟨hlt,hcc⟩:=List.getElem?_eq_some_iff.1 hc
  simp at hlt hcc
  subst hcc
  have:=hu.2 (o / 2) (by omega)
  by_cases ho:o % 2=0
  ·rw[if_pos ho]
   refine⟨_,_,rfl,?_⟩
   have:=this.1
   rwa [show 2*(o / 2)=o by omega] at this
  ·rw[if_neg ho]
   refine⟨_,_,rfl,?_⟩
   have:=this.2
   rwa [show 2*(o / 2)+1=o by omega] at this
 rw[if_neg e2] at hg
 exact absurd rfl hg
end Go.Proofs.YtbaaokocnegdoaaGreatDoor
set_option maxRecDepth 100000
set_option linter.unusedVariables false
set_option linter.unusedSimpArgs false
namespace Go.Proofs.YtbaaokocnegdoaaGreatDoor.delimitedRepresentableDone
open Go Go.Ab Go.RowKit Go.ChangeShapes Go.WideShapes Go.ChangeAt
theorem own:ownKnob Tryz.prog.godebug=none:=by kernel_rfl
theorem IK:laidOutB Tryz.prog=true:=by kernel_rfl
theorem OO {W:World}(h:laidMetH Tryz.prog Rows.delimitedRepresentableRow.laid W):cu aE W (na W):=by
 have h':laidMet Tryz.prog Rows.delimitedRepresentableRow.laid W:=h
 exact EX (Go.Lib.laidMet.reads h' (n:= "unicode/utf8.first") (d:=Go.Lib.firstData) (by rw[show Go.Lib.firstData=(Rows.laid_unicode_utf8_first:DataW Unit) by kernel_rfl];exact List.Mem.tail _ (List.Mem.tail _ (List.Mem.tail _ (List.Mem.tail _ (List.Mem.tail _ (List.Mem.tail _ (List.Mem.head _))))))))
  (Go.Lib.laidMet.reads h' (n:= "unicode/utf8.acceptRanges") (d:=Go.Lib.acceptData) (by rw[show Go.Lib.acceptData=(Rows.laid_unicode_utf8_acceptRanges:DataW Unit) by kernel_rfl];exact List.Mem.tail _ (List.Mem.tail _ (List.Mem.tail _ (List.Mem.head _)))))
  (Go.Lib.laidMet.reads h' (n:= "internal/strconv.uint64pow10") (d:=(Go.Lib.tabData .u64 Go.Lib.pow10Tab)) (by rw[show (Go.Lib.tabData .u64 Go.Lib.pow10Tab)=(Rows.laid_internal_strconv_uint64pow10:DataW Unit) by kernel_rfl];exact List.Mem.tail _ (List.Mem.tail _ (List.Mem.head _))))
theorem ON:Tryz.f4.params = #[26,3]:=by kernel_rfl
theorem iD (H:Type)(enc:TypeId×Value→H)(W:World)(base:Nat)(args:Array Value)(ds gs:List (DataW H))(before:List MemPlace)
  (hval:∀ (j:Nat) t v,Tryz.f4.params[j]? = some t→args[j]? = some v→Value.okWide Tryz.prog W .any base t v)
  (hW:DataW.Whole enc Tryz.prog Tryz.f4.params.toList Rows.delimitedRepresentableSpec.vars false W args.toList ds gs before) (hsz:(DataW.weightsEach Tryz.prog (Tryz.f4.params.toList++Rows.delimitedRepresentableSpec.plain.varTypes Tryz.prog) (ds++gs)).all (·≤reachBytes)=true) (hL:laidMetH Tryz.prog Rows.delimitedRepresentableRow.laid W) :
  Calls Tryz.prog 4 args W fun e W'=>∃ v,e = .returned v∧Rows.delimitedRepresentableSpec.post enc Tryz.prog Tryz.f4 false true false false W args v W':=by
 refine Ew (ts:=[26,3,22,9,23,24,98,28,31,29,83,4]) (tb:=4) (G:=aE) rfl IK (by decide +kernel) (by kernel_rfl) (by decide +kernel) (by kernel_rfl) (by kernel_rfl) ?_ hval hW hsz (OO hL) ?_
 ·intro ds hd
  rw[ON] at hd
  match ds,hd with
  | [d0,d1],_=>rfl
 ·intro ps hp hT
  rw[ON] at hp hT
  match ps,hp with
  | [p0,p1],_=>
    exact HV p0 p1 (hT 0 26 p0 rfl rfl) (hT 1 3 p1 rfl rfl)
def tX:DataW Unit→List Value
 | .lit (.int k n)=>[Value.int k n]
 | .agg xs=>xs.map fun x=>match x with
   | .lit (.int k n)=>Value.int k n
   | _=>Go.undef
 | _=>[]
def zi:DataW Unit→Array Value
 | .agg xs=>(xs.flatMap tX).toArray
 | _=>#[]
def l9 (d:DataW Unit):Obj→Obj
 | .cells _ t frozen=>.cells (zi d) t frozen
 | o=>o
def Gt (d:DataW Unit):Obj:=
 match d with
 | .iface _ (.ptr (.agg [.lit (.string bs)]))=>.cells #[.string ⟨bs.toArray⟩] 278
 | _=>.cells #[] 278
def F8 (k:Nat):Obj→Obj
 | .cells _ t frozen=>.cells #[.iface 276 (.pointer (some ⟨k,0,none⟩))] t frozen
 | o=>o
noncomputable def dM (os:Os):World:=
 { World.holding Tryz.prog os ⟨#[],#[],[]⟩ with heap:=((((((((((World.holding Tryz.prog os ⟨#[],#[],[]⟩).heap.push (Gt Rows.laid_strconv_ErrRange)).push (Gt Rows.laid_strconv_ErrSyntax)).modify 6 (l9 Rows.laid_math_bits_deBruijn32tab)).modify 7 (l9 Rows.laid_math_bits_deBruijn64tab)).modify 5 (l9 Rows.laid_internal_strconv_uint64pow10)).modify 4 (l9 Rows.laid_unicode_utf8_acceptRanges)).modify 2 (F8 ((World.holding Tryz.prog os ⟨#[],#[],[]⟩).heap.size+0))).modify 1 (F8 ((World.holding Tryz.prog os ⟨#[],#[],[]⟩).heap.size+1))).modify 3 (l9 Rows.laid_unicode_utf8_first)) }
theorem Ex (os:Os):laidMet Tryz.prog Rows.delimitedRepresentableRow.laid ((dM os).forCall (fun _ _=>0) ⟨#[],#[.agg #[.int .i64 0,.int .i64 0,.int .i64 0,.int .i64 0,.slice none 0 0,.slice none 0 0,.slice none 0 0],.int .i64 0],[]⟩).memory:=
 laidMet_of_run' 8 (by kernel_rfl) (by kernel_rfl)
theorem reads (os:Os){H:Type}(enc:TypeId×Value→H):∃ places,DataW.whole enc Tryz.prog ((dM os).forCall (fun _ _=>0) ⟨#[],#[.agg #[.int .i64 0,.int .i64 0,.int .i64 0,.int .i64 0,.slice none 0 0,.slice none 0 0,.slice none 0 0],.int .i64 0],[]⟩).memory Tryz.f4.params.toList Rows.delimitedRepresentableSpec.vars false (#[.agg #[.int .i64 0,.int .i64 0,.int .i64 0,.int .i64 0,.slice none 0 0,.slice none 0 0,.slice none 0 0],.int .i64 0]:Array Value).toList 8=some ([.agg [.lit (.int .i64 0),.lit (.int .i64 0),.lit (.int .i64 0),.lit (.int .i64 0),.nil,.nil,.nil],.lit (.int .i64 0)],[],places):=
 ⟨[],by kernel_rfl⟩
theorem Oj:Tryz.checked.prog.inits.idxOf? 4=none:=by kernel_rfl
theorem Oh (os:Os):World.variablesB Tryz.checked.prog ((dM os).forCall (fun _ _=>0) ⟨#[],#[.agg #[.int .i64 0,.int .i64 0,.int .i64 0,.int .i64 0,.slice none 0 0,.slice none 0 0,.slice none 0 0],.int .i64 0],[]⟩)=true:=by kernel_rfl
theorem Oi (os:Os):List.take ((begin Tryz.checked.prog (fun _ _=>0) default).world.heap.size - Tryz.checked.prog.globals.size) (List.drop Tryz.checked.prog.globals.size ((dM os).forCall (fun _ _=>0) ⟨#[],#[.agg #[.int .i64 0,.int .i64 0,.int .i64 0,.int .i64 0,.slice none 0 0,.slice none 0 0,.slice none 0 0],.int .i64 0],[]⟩).heap.toList)=List.drop Tryz.checked.prog.globals.size (begin Tryz.checked.prog (fun _ _=>0) default).world.heap.toList:=by kernel_rfl
theorem Og (os:Os):Input.okWideB Tryz.checked.prog ((dM os).forCall (fun _ _=>0) ⟨#[],#[.agg #[.int .i64 0,.int .i64 0,.int .i64 0,.int .i64 0,.slice none 0 0,.slice none 0 0,.slice none 0 0],.int .i64 0],[]⟩) 4 ⟨#[],#[.agg #[.int .i64 0,.int .i64 0,.int .i64 0,.int .i64 0,.slice none 0 0,.slice none 0 0,.slice none 0 0],.int .i64 0],[]⟩=true:=by kernel_rfl
theorem L7 (os:Os)(started:os.Started)(H:Type)(enc:TypeId×Value→H)(F:Stop.Interp) :
  ReturnsInHanded {} Tryz.checked os 4 .any ((OpenSpec.ofChange Rows.delimitedRepresentableSpec).preRow enc Tryz.prog Tryz.f4 Rows.delimitedRepresentableRow.domain false Rows.delimitedRepresentableRow.laid) (((OpenSpec.ofChange Rows.delimitedRepresentableSpec).at F).post enc Tryz.prog Tryz.f4 false true false false):=by
 obtain⟨places,hx⟩:=reads os enc
 refine returnsInHanded_of_row (C:=Tryz.checked) (s:=OpenSpec.ofChange Rows.delimitedRepresentableSpec) own started Oj Tryz.func4
  (witness_row_at (enc:=enc) (C:=Tryz.checked) false (dM os) #[.agg #[.int .i64 0,.int .i64 0,.int .i64 0,.int .i64 0,.slice none 0 0,.slice none 0 0,.slice none 0 0],.int .i64 0] rfl (Oh os) (Oi os) (Og os)
   (OpenSpec.preRow_of_cond 8 hx (by kernel_rfl) (fun k hk=>by cases hk) (by kernel_rfl) (Ex os))) ?_
 intro W base args ds gs before hval hW _ _ hsz hL _ _
 exact iD H enc W base args ds gs before hval hW hsz hL
end Go.Proofs.YtbaaokocnegdoaaGreatDoor.delimitedRepresentableDone
set_option maxRecDepth 100000
set_option linter.unusedVariables false
set_option linter.unusedSimpArgs false
namespace Go.Proofs.YtbaaokocnegdoaaGreatDoor.delimitedRepresentableDone
open Go Go.Ab Go.RowKit Go.ChangeShapes Go.WideShapes Go.ChangeAt
set_option maxHeartbeats 100000000 in
theorem OS:joinedFacts Tryz.pinned.checked.prog 4 Tryz.f4 (OpenSpec.ofChange Rows.delimitedRepresentableSpec).bare Rows.delimitedRepresentableRow=true:=by
 unfold joinedFacts
 repeat' (with_reducible refine Bool.and_eq_true_iff.2 ⟨?_,?_⟩)
 all_goals as_aux_lemma=>kernel_rfl
end Go.Proofs.YtbaaokocnegdoaaGreatDoor.delimitedRepresentableDone
