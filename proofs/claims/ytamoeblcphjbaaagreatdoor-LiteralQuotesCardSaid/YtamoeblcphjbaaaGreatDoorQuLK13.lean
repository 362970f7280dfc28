/- A part of the proof for LiteralQuotesCardSaid. -/
import Derived.Test.YtamoeblcphjbaaaGreatDoorQuLR6
import Derived.Test.YtamoeblcphjbaaaGreatDoorQuL4
import Derived.Test.YtamoeblcphjbaaaGreatDoorQuLE1
import Derived.Test.YtamoeblcphjbaaaGreatDoorQuL5
import Derived.Test.YtamoeblcphjbaaaGreatDoorQuLC1
import Derived.Test.YtamoeblcphjbaaaGreatDoorCore6
import Derived.Stop.LaidErr
import Derived.Test.YtamoeblcphjbaaaGreatDoorQuLSh2
set_option maxRecDepth 100000
set_option linter.unusedVariables false
namespace Go.Proofs.YtamoeblcphjbaaaGreatDoor
open Go Go.Ab
def xk:List PV→Option (List (List UInt8))
 | []=>some []
 | .str s::r=>match xk r with
   | some l=>some (s::l)
   | none=>none
 | _=>none
theorem q9:∀ {l:List PV} {ss:List (List UInt8)},xk l=some ss→l=ss.map .str
 | [],ss,h=>by simp only[xk,Option.some.injEq] at h;subst h;rfl
 | x::r,ss,h=>by
   unfold xk at h
   split at h
   ·rename_i e;cases e
   ·rename_i s r' e
    cases e
    split at h
    ·rename_i l hl
     cases h
     rw[q9 hl];rfl
    ·cases h
   ·cases h
def eqL (p:PV→PV→Bool):List PV→List PV→Bool
 | [],[]=>true
 | x::r,y::q=>p x y&&eqL p r q
 | _,_=>false
def eqP:Nat→PV→PV→Bool
 | n+1,.int k a,.int k' b=>decide (k=k')&&decide (a=b)
 | n+1,.str a,.str b=>decide (a=b)
 | n+1,.nils,.nils=>true
 | n+1,.agg a,.agg b=>eqL (eqP n) a b
 | n+1,.list a,.list b=>eqL (eqP n) a b
 | _,_,_=>false
theorem AP {p:PV→PV→Bool}(hp:∀ x y,p x y=true→x=y):∀ a b,eqL p a b=true→a=b
 | [],[],_=>rfl
 | x::r,y::q,h=>by
   simp only[eqL,Bool.and_eq_true] at h
   rw[hp x y h.1,AP hp r q h.2]
 | [],y::q,h=>by simp[eqL] at h
 | x::r,[],h=>by simp[eqL] at h
theorem r9:∀ n x y,eqP n x y=true→x=y
 | 0,x,y,h=>by simp[eqP] at h
 | n+1,x,y,h=>by
   unfold eqP at h
   split at h
   ·simp only[Bool.and_eq_true,decide_eq_true_eq] at h;rw[h.1,h.2]
   ·simp only[decide_eq_true_eq] at h;rw[h]
   ·rfl
   ·rw[AP (r9 _) _ _ h]
   ·rw[AP (r9 _) _ _ h]
   ·cases h
def v1:Val:=.mk 9 0 0 [] [] [.mk [97] (.mk 3 1250 2 [] [] []),.mk [98] (.mk 8 0 0 [] [.mk 1 1 0 [] [] [],.mk 4 0 0 [97,34,98] [] []] []),.mk [99] (.mk 10 0 0 [99,97,114,100] [.mk 6 0 0 [] [] []] [])]
def v1P:PV:=.agg [.int .i64 9,.int .i64 0,.int .i64 0,.str [],.nils,.list [.agg [.str [97],.int .i64 3,.int .i64 1250,.int .i64 2,.str [],.nils,.nils],.agg [.str [98],.int .i64 8,.int .i64 0,.int .i64 0,.str [],.list [.agg [.int .i64 1,.int .i64 1,.int .i64 0,.str [],.nils,.nils],.agg [.int .i64 4,.int .i64 0,.int .i64 0,.str [97,34,98],.nils,.nils]],.nils],.agg [.str [99],.int .i64 10,.int .i64 0,.int .i64 0,.str [99,97,114,100],.list [.agg [.int .i64 6,.int .i64 0,.int .i64 0,.str [],.nils,.nils]],.nils]]]
def v2:Val:=.mk 9 0 0 [] [] [.mk [97] (.mk 3 2 0 [] [] []),.mk [98] (.mk 2 1 0 [] [] [])]
def v2P:PV:=.agg [.int .i64 9,.int .i64 0,.int .i64 0,.str [],.nils,.list [.agg [.str [97],.int .i64 3,.int .i64 2,.int .i64 0,.str [],.nils,.nils],.agg [.str [98],.int .i64 2,.int .i64 1,.int .i64 0,.str [],.nils,.nils]]]
theorem Fs:aw Tryz.prog aF 15 [v1P] (.int .i64 0):=by
 have h:=lJ 4 v1 (by simp[v1,qu,cx,Val.kind,Val.fields,Val.lst,Fld.value]) (by simp[v1,Val.ok_mk,Fld.ok_mk,I64])
 have e:Bm 0 (gG 4 1 v1)=0:=by decide +kernel
 rw[e] at h
 refine h.nz ?_
 simp only[v1P,v1,Val.pv_mk,Fld.pv_mk,List.map_cons,List.map_nil]
 repeat' constructor
theorem Fr:aw Tryz.prog aF 15 [v2P] (.int .i64 0):=by
 have h:=lJ 3 v2 (by simp[v2,qu,cx,Val.kind,Val.fields,Fld.value]) (by simp[v2,Val.ok_mk,Fld.ok_mk,I64])
 have e:Bm 0 (gG 3 1 v2)=0:=by decide +kernel
 rw[e] at h
 refine h.nz ?_
 simp only[v2P,v2,Val.pv_mk,Fld.pv_mk,List.map_cons,List.map_nil]
 repeat' constructor
def orc (f:Nat)(ps:List PV):Option PV:=
 match f with
 | 66=>match ps with
   | [.int .i64 n]=>if -9223372036854775808≤n∧n≤9223372036854775807 then some (.str (lk n)) else none
   | _=>none
 | 103=>match ps with
   | [.str a,.str b]=>some (.int .i64 (Lib.compareBytes a b))
   | _=>none
 | 141=>match ps with
   | [.list l,.str s]=>match xk l with
     | some ss=>if ss.length≤140737488355328∧(gX s ss).length≤140737488355328 then some (.str (gX s ss)) else none
     | none=>none
   | _=>none
 | 88=>match ps with
   | [.str a,.int .i64 n]=>if 0≤n∧n≤9223372036854775807∧a.length*n.toNat≤140737488355328 then some (.str (Lib.repeatL a n.toNat)) else none
   | _=>none
 | 15=>match ps with
   | [p]=>if eqP 6 p v1P=true then some (.int .i64 0) else if eqP 6 p v2P=true then some (.int .i64 0) else none
   | _=>none
 | _=>none
theorem Mb:∀ f ps r,orc f ps=some r→aw Tryz.prog aF f ps r:=by
 intro f ps r h
 unfold orc at h
 split at h
 ·split at h
  ·split at h
   ·rename_i hh;cases h;exact z7 _ hh.1 hh.2
   ·cases h
  ·cases h
 ·split at h
  ·cases h;exact gx _ _
  ·cases h
 ·split at h
  ·split at h
   ·rename_i e
    split at h
    ·rename_i hh;cases h
     rw[q9 e]
     exact I1 _ _ hh.1 hh.2
    ·cases h
   ·cases h
  ·cases h
 ·split at h
  ·split at h
   ·rename_i hh;cases h;exact mt _ _ hh.1 hh.2.1 hh.2.2
   ·cases h
  ·cases h
 ·split at h
  ·split at h
   ·rename_i hh;cases h;rw[r9 _ _ _ hh];exact Fs
   ·split at h
    ·rename_i hh;cases h;rw[r9 _ _ _ hh];exact Fr
    ·cases h
  ·cases h
 ·cases h
noncomputable def gFn (p:Nat×List Nat):TabRow:=⟨p.1,p.2,(cFn Tryz.prog p.2 p.1).getD ⟨0,[],.skip⟩⟩
def Gi:List (Nat×List Nat):=[(12,[]),(14,[]),(16,[]),(18,[]),(20,[]),(26,[]),(31,[]),(33,[]),(36,[]),(37,[]),(42,[]),(43,[]),(45,[]),(46,[]),(47,[]),(49,[14]),(52,[]),(56,[124,1000168,1000123]),(63,[]),(64,[]),(65,[]),(67,[]),(68,[]),(82,[]),(86,[]),(87,[]),(89,[]),(90,[]),(92,[]),(93,[]),(94,[]),(95,[]),(99,[59,1000066]),(107,[19]),(113,[44]),(120,[]),(121,[]),(122,[]),(123,[]),(131,[]),(132,[]),(133,[]),(134,[]),(142,[]),(143,[]),(145,[]),(146,[]),(151,[]),(154,[]),(155,[]),(156,[]),(157,[]),(158,[]),(159,[]),(162,[]),(163,[]),(164,[]),(165,[]),(166,[]),(167,[]),(168,[]),(184,[]),(185,[12]),(189,[]),(195,[]),(196,[]),(198,[]),(203,[]),(206,[]),(209,[]),(210,[]),(211,[]),(215,[]),(220,[]),(221,[]),(225,[]),(226,[]),(236,[]),(237,[]),(248,[]),(254,[]),(261,[])]
theorem Lm {l:List (Nat×List Nat)}(h:(l.all fun p=>(cFn Tryz.prog p.2 p.1).isSome)=true):∀ r∈l.map gFn,cFn Tryz.prog r.muts r.f=some r.fn:=by
 intro r hr
 obtain⟨p,hp,rfl⟩:=List.mem_map.1 hr
 have h:=List.all_eq_true.1 h p hp
 simp only[gFn]
 cases h':cFn Tryz.prog p.2 p.1 with
 | some x=>rfl
 | none=>rw[h'] at h;cases h
theorem Lv:(Gi.all fun p=>(cFn Tryz.prog p.2 p.1).isSome)=true:=by kernel_rfl
theorem QT:tV (exF (Gi.map gFn) orc aF 20000 200) 12 []=some (.bool true):=by kernel_rfl
theorem I0:aw Tryz.prog aF 12 [] (.bool true):=aw.of_ex (Lm Lv) Mb QT
end Go.Proofs.YtamoeblcphjbaaaGreatDoor
set_option maxRecDepth 100000
set_option linter.unusedVariables false
set_option linter.unusedSimpArgs false
-- many steps
namespace Go.Proofs.YtamoeblcphjbaaaGreatDoor
open Go Go.Ab Go.RowKit
attribute [local irreducible] vc
theorem nZ {v:Val}(hp:cx v=[]):wi v=bD 0 (1,v):=by
 unfold wi
 have hn:=(gB v).choose_spec
 generalize (gB v).choose=n at *
 cases n with
 | zero=>exact hn.elim
 | succ m=>
   rw[gG,hp,List.flatMap_nil,Bm]
   split
   ·rename_i h;rw[h];rfl
   ·rfl
theorem nG {v:Val}(h1:cn v=false)(h2:¬ (v.kind<1∨10<v.kind))(h3:aC v=true):bD 0 (1,v)=ca v:=
 xr (by omega) (by simp) h1 h2 h3
theorem vz {t:List UInt8}(h:t.length≤1024):wi (.mk 5 0 0 t [] [])=0:=by
 rw[nZ rfl,nG rfl (by simp[Val.kind]) (by simp[aC])]
 show fH t.length 1024 5=0
 unfold fH;rw[if_neg (by omega)]
theorem Bk {t:List UInt8}(h:wi (.mk 4 0 0 t [] [])=0):Lib.validD t=true:=by
 rw[nZ rfl,nG rfl (by simp[Val.kind]) (by simp[aC])] at h
 rw[show ca (.mk 4 0 0 t [] [])=(if fH t.length 1024 5=0 then (if Lib.validD t=true then 0 else 16) else fH t.length 1024 5) from rfl] at h
 split at h
 ·split at h
  ·assumption
  ·omega
 ·exact absurd h ‹_›
theorem Hq {s:List UInt8}(h:s.length≤65536):bY s=A s 0:=by rw[iF (by omega)];rfl
theorem Ak (t:List UInt8):(lp t).length=2*t.length+3:=by
 rw[lp,List.length_cons,List.length_cons,List.length_append,eu];rfl
theorem j7 {s:List UInt8}{k:Int}{t:List UInt8}(hs:s.length≤65536)(hk:k=3∨k=4)(hA:A s 0=⟨s,s.length,{ kind:=k,pos:=0,text:=s,bytes:=t },0,0⟩)(hc:wi (.mk (k+1) 0 0 t [] [])=0) :
  fD s=(.mk (k+1) 0 0 t [] [],0,0):=by
 unfold fD
 rw[Hq hs,hA]
 have hg:cp ({ kind:=k,pos:=0,text:=s,bytes:=t }:Tk):=by rcases hk with rfl | rfl<;>simp[cp]
 rw[ee (R:=⟨s,s.length,{ kind:=k,pos:=0,text:=s,bytes:=t },0,0⟩) rfl hg]
 have hv:bC srt 7 0 ⟨s,s.length,{ kind:=k,pos:=0,text:=s,bytes:=t },0,0⟩=(.mk (k+1) 0 0 t [] [],bi ⟨s,s.length,{ kind:=k,pos:=0,text:=s,bytes:=t },0,0⟩):=by
  unfold bC
  rcases hk with rfl | rfl
  ·rw[if_neg (by simp),if_neg (by simp),if_pos rfl];rfl
  ·rw[if_neg (by simp),if_neg (by simp),if_neg (by simp),if_pos rfl];rfl
 rw[hv,PS rfl rfl,Qw (Nat.le_refl _)]
 have hf:jp ⟨s,s.length,{ pos:=s.length },0,0⟩=⟨s,s.length,{ pos:=s.length },0,0⟩:=rfl
 simp only
 rw[hf]
 have hn:cn (.mk (k+1) 0 0 t [] [])=false:=by rcases hk with rfl | rfl<;>rfl
 unfold Py
 rw[if_pos rfl,if_neg (by rw[hn];decide),if_pos hc]
theorem yI {t:List UInt8}(h:t.length≤300):fD (lp t)=(.mk 5 0 0 t [] [],0,0):=by
 have hl:=Ak t
 have hA:=Qv (s:=lp t) (r:=[]) (t:=t) (i:=0) (by simp)
 rw[Nat.zero_add] at hA
 exact j7 (k:=4) (by omega) (.inr rfl) hA (vz (by omega))
theorem pp {t:List UInt8}(h:t.length≤300)(hc:wi (.mk 4 0 0 t [] [])=0):fD (bR t)=(.mk 4 0 0 t [] [],0,0):=by
 have hl:(bR t).length≤6*t.length+2:=by
  have:=fM t
  rw[bR,List.length_cons,List.length_append,List.length_singleton];omega
 have hA:=Qu (s:=bR t) (r:=[]) (t:=t) (i:=0) (by simp) (Bk hc)
 rw[Nat.zero_add] at hA
 exact j7 (k:=3) (by omega) (.inl rfl) hA hc
section
variable {T:Nat}{p:PV}
set_option maxHeartbeats 2000000 in
theorem QO (s0:List UInt8)(hs:s0.length≤140737488355328):aw Tryz.prog (di T p) 8 [.str s0] (.bool true):=by
 have hmin:min (s0.length:Int) 300=((min s0.length 300:Nat):Int):=by omega
 have hst:s0.take (min s0.length 300)=s0.take 300:=by
  rw[Nat.min_comm,List.take_eq_take_iff];omega
 obtain⟨s,hse⟩:∃ s,s=s0.take (min s0.length 300):=⟨_,rfl⟩
 have hl:s.length≤300:=by rw[hse,List.length_take];omega
 have hk:=toE (T:=T) (p:=p) I0
 have h20:=toE (T:=T) (p:=p) (Ik s (by omega))
 have h21:=toE (T:=T) (p:=p) (DV s (by omega))
 have h22:=toE (T:=T) (p:=p) (DW s (by omega))
 have h23:=toE (T:=T) (p:=p) (I4 s (by omega))
 have hp1:=yK (T:=T) (p:=p) (lp s)
 have hp2:=yK (T:=T) (p:=p) (bR s)
 rw[yI hl] at hp1
 have okB:(Val.mk 5 0 0 s [] []).ok:=cQ (ff (by omega) (by omega)) bI bI (by omega)
 have okT':(Val.mk 4 0 0 s [] []).ok:=cQ (ff (by omega) (by omega)) bI bI (by omega)
 have aB:jT 1 (Val.mk 5 0 0 s [] []):=⟨(fun x hx=>by cases hx),fun x hx=>by cases hx⟩
 have aT:jT 1 (Val.mk 4 0 0 s [] []):=⟨(fun x hx=>by cases hx),fun x hx=>by cases hx⟩
 have e1:=toE (T:=T) (p:=p) (AN 1 _ _ aB okB okB)
 have e2:=toE (T:=T) (p:=p) (AN 1 _ _ aT okT' okT')
 rw[decide_eq_true ((jz 1 _ _ aB).2 rfl)] at e1
 rw[decide_eq_true ((jz 1 _ _ aT).2 rfl)] at e2
 have hch:=toE (T:=T) (p:=p) (Bl _ okT')
 have hpq:=pp hl
 generalize lp s=hx at *
 generalize bR s=qt at *
 simp only[Val.pv_mk,List.map_nil] at hp1 e1 e2 hch
 have hsl:(s0.take (min s0.length 300))=s:=hse.symm
 by_cases hc:wi (.mk 4 0 0 s [] [])=0
 ·rw[hpq hc] at hp2
  rw[hc] at hch
  simp only[Val.pv_mk,List.map_nil] at hp2
  refine aw.intro NG (by simp[F8]) ?_
  simp(maxSteps:=9^7) (disch:=first|exact dI|fail) only[F8,hmin,hsl,push_cast,seval]
  refine ab.pure hk rfl ?_
  simp(maxSteps:=9^7) (disch:=first|exact dI|fail) only[push_cast,seval]
  refine ab.pure h20 rfl ?_
  simp(maxSteps:=9^7) (disch:=first|exact dI|fail) only[push_cast,seval]
  refine ab.pure h21 rfl ?_
  simp(maxSteps:=9^7) (disch:=first|exact dI|fail) only[push_cast,seval]
  refine ab.pure h22 rfl ?_
  simp(maxSteps:=9^7) (disch:=first|exact dI|fail) only[push_cast,seval]
  refine ab.pure h23 rfl ?_
  simp(maxSteps:=9^7) (disch:=first|exact dI|fail) only[push_cast,seval]
  refine ab.pure h22 rfl ?_
  simp(maxSteps:=9^7) (disch:=first|exact dI|fail) only[push_cast,seval]
  refine ab.pure hp1 rfl ?_
  simp(maxSteps:=9^7) (disch:=first|exact dI|fail) only[push_cast,seval]
  refine ab.pure h20 rfl ?_
  simp(maxSteps:=9^7) (disch:=first|exact dI|fail) only[push_cast,seval]
  refine ab.pure hp2 rfl ?_
  simp(maxSteps:=9^7) (disch:=first|exact dI|fail) only[push_cast,seval]
  refine ab.pureN e1 rfl (by repeat' constructor) ?_
  simp(maxSteps:=9^7) (disch:=first|exact dI|fail) only[push_cast,seval]
  refine ab.pureN hch rfl (by repeat' constructor) ?_
  simp(maxSteps:=9^7) (disch:=first|exact dI|fail) only[push_cast,seval]
  refine ab.pureN e2 rfl (by repeat' constructor) ?_
  simp(maxSteps:=9^7) (disch:=first|exact dI|fail) only[push_cast,seval]
 ·generalize fD qt=Q at *
  obtain⟨v,n,e⟩:=Q
  obtain⟨w1,w2,w3,w4,w5,w6⟩:=v
  simp only[Val.pv_mk] at hp2
  generalize wi (.mk 4 0 0 s [] [])=c at *
  refine aw.intro NG (by simp[F8]) ?_
  simp(maxSteps:=9^7) (disch:=first|exact dI|fail) only[F8,hmin,hsl,push_cast,seval]
  refine ab.pure hk rfl ?_
  simp(maxSteps:=9^7) (disch:=first|exact dI|fail) only[push_cast,seval]
  refine ab.pure h20 rfl ?_
  simp(maxSteps:=9^7) (disch:=first|exact dI|fail) only[push_cast,seval]
  refine ab.pure h21 rfl ?_
  simp(maxSteps:=9^7) (disch:=first|exact dI|fail) only[push_cast,seval]
  refine ab.pure h22 rfl ?_
  simp(maxSteps:=9^7) (disch:=first|exact dI|fail) only[push_cast,seval]
  refine ab.pure h23 rfl ?_
  simp(maxSteps:=9^7) (disch:=first|exact dI|fail) only[push_cast,seval]
  refine ab.pure h22 rfl ?_
  simp(maxSteps:=9^7) (disch:=first|exact dI|fail) only[push_cast,seval]
  refine ab.pure hp1 rfl ?_
  simp(maxSteps:=9^7) (disch:=first|exact dI|fail) only[push_cast,seval]
  refine ab.pure h20 rfl ?_
  simp(maxSteps:=9^7) (disch:=first|exact dI|fail) only[push_cast,seval]
  refine ab.pure hp2 rfl ?_
  simp(maxSteps:=9^7) (disch:=first|exact dI|fail) only[push_cast,seval]
  refine ab.pureN e1 rfl (by repeat' constructor) ?_
  simp(maxSteps:=9^7) (disch:=first|exact dI|fail) only[push_cast,seval]
  refine ab.pureN hch rfl (by repeat' constructor) ?_
  simp(maxSteps:=9^7) (disch:=first|exact dI|fail) only[hc,push_cast,seval]
end
end Go.Proofs.YtamoeblcphjbaaaGreatDoor
namespace Go.Proofs.YtamoeblcphjbaaaGreatDoor
open Go Go.Ab
theorem yx (q:PV)(p0:PV)(h0:HasT Tryz.prog 9 p0):aw Tryz.prog (di 270 q) 8 [p0] (.bool true):=by
 obtain⟨s,rfl,hs⟩:=EY h0 Tryz.underlying9
 exact QO s (by omega)
end Go.Proofs.YtamoeblcphjbaaaGreatDoor
set_option maxRecDepth 100000
namespace Go.Proofs.YtamoeblcphjbaaaGreatDoor
open Go Go.Ab Go.Lib Go.Proofs
theorem u8X:U8Extra Tryz.prog Tryz.lays196_ren:=⟨by kernel_rfl,by kernel_rfl,by kernel_rfl,by kernel_rfl,by kernel_rfl,by kernel_rfl,by kernel_rfl⟩
theorem EZ {W:World}(h1:VarReads Tryz.prog W "unicode/utf8.first" firstData) (h2:VarReads Tryz.prog W "unicode/utf8.acceptRanges" acceptData)
  (h3:VarReads Tryz.prog W "internal/strconv.uint64pow10" (tabData .u64 pow10Tab)) (h5:VarReads Tryz.prog W "math/bits.deBruijn64tab" (tabData .u8 (deBruijn64tab.map fun n:Nat=>(n:Int)))):bZ aF W (lm W):=by
 have hu:=utf8Tabs_of_readsT (U8Types.of196 Tryz.lays196) u8X h1 h2
 refine At fun g hg=>?_
 unfold aF at hg ⊢
 by_cases e3:g=3
 ·subst e3
  exact j1 (t:=219) (e:=181) (m:=20) h3 (by kernel_rfl) (by kernel_rfl) (by kernel_rfl) (by kernel_rfl) (by kernel_rfl) (by kernel_rfl) (by kernel_rfl)
 rw[if_neg e3] at hg ⊢
 by_cases e1:g=0
 ·subst e1
  rw[if_pos rfl] at hg ⊢
  refine kO (t:=159) (e:=5) (m:=256) h1 (by kernel_rfl) (by kernel_rfl) (by kernel_rfl) (by kernel_rfl) fun o p hp=>?_
  rw[Om,List.getElem?_map,Option.map_eq_some_iff] at hp
  obtain⟨c,hc,rfl⟩:=hp
  obtain⟨hlt,hcc⟩:=List.getElem?_eq_some_iff.1 hc
  simp at hlt hcc
  subst hcc
  exact⟨_,_,rfl,hu.1 o hlt⟩
 rw[if_neg e1] at hg ⊢
 by_cases e2:g=1
 ·subst e2
  rw[if_pos rfl] at hg ⊢
  refine kO (t:=162) (e:=161) (m:=16) h2 (by kernel_rfl) (by kernel_rfl) (by kernel_rfl) (by kernel_rfl) fun o p hp=>?_
  rw[KU,List.getElem?_map,Option.map_eq_some_iff] at hp
  obtain⟨c,hc,rfl⟩:=hp
  obtain⟨hlt,hcc⟩:=List.getElem?_eq_some_iff.1 hc
  simp at hlt hcc
  subst hcc
  have:=hu.2 (o / 2) (by omega)
  by_cases ho:o % 2=0
  ·rw[if_pos ho]
   refine⟨_,_,rfl,?_⟩
   have:=this.1
   rwa [show 2*(o / 2)=o by omega] at this
  ·rw[if_neg ho]
   refine⟨_,_,rfl,?_⟩
   have:=this.2
   rwa [show 2*(o / 2)+1=o by omega] at this
 rw[if_neg e2] at hg ⊢
 by_cases e5:g=5
 ·subst e5
  rw[if_pos rfl] at hg ⊢
  have:=j1 (g:=5) (t:=257) (e:=5) (m:=64) h5 (by kernel_rfl) (by kernel_rfl) (by kernel_rfl) (by kernel_rfl) (by kernel_rfl) (by kernel_rfl) (by kernel_rfl)
  rw[List.map_map] at this
  exact this
 rw[if_neg e5] at hg
 exact absurd rfl hg
end Go.Proofs.YtamoeblcphjbaaaGreatDoor
set_option maxRecDepth 100000
namespace Go.Proofs.YtamoeblcphjbaaaGreatDoor
open Go Go.Ab Go.Lib Go.Proofs Go.RowKit Go.ChangeShapes
theorem Ls : "*" ++ "errors.errorString" = "*errors.errorString":=by decide
theorem LP (u:TypeId)(h:Tryz.prog.typeName? 3 u=some "*errors.errorString"):u=270:=
 typeName_ptr_named (nm:= "errors.errorString") (by rw[Ls];kernel_rfl) (by kernel_rfl) (by decide) u (by rw[Ls];exact h)
theorem MO {text:List UInt8}{r:List (String×DataW Unit)}{W:World}(h:laidMet Tryz.prog (("strconv.ErrSyntax",.iface "*errors.errorString" (.ptr (.agg [.lit (.string text)])))::r) W) :
  ∃ (a:Addr) (s:ByteArray),W.var? Tryz.prog "strconv.ErrSyntax" = some #[.iface 270 (.pointer (some a))]∧W.cell? a=some (.string s)∧s.data.toList=text∧s.size≤maxLen:=
 laid_sentinel h (g:=6) (ti:=85) (te:=272) (ts:=9) (by kernel_rfl) (by kernel_rfl) Tryz.underlying85 LP Tryz.underlying270 Tryz.underlying272 rfl rfl Tryz.underlying9 (by kernel_rfl) (by kernel_rfl)
theorem As {W:World}(h1:VarReads Tryz.prog W "unicode/utf8.first" firstData) (h2:VarReads Tryz.prog W "unicode/utf8.acceptRanges" acceptData)
  (h3:VarReads Tryz.prog W "internal/strconv.uint64pow10" (tabData .u64 pow10Tab)) (h5:VarReads Tryz.prog W "math/bits.deBruijn64tab" (tabData .u8 (deBruijn64tab.map fun n:Nat=>(n:Int))))
  (hE:∃ (a:Addr) (s:ByteArray),W.var? Tryz.prog "strconv.ErrSyntax" = some #[.iface 270 (.pointer (some a))]∧W.cell? a=some (.string s)):∃ p,bZ (di 270 p) W (lm W):=by
 obtain⟨⟨b,o,sp⟩,s,hv,hc⟩:=hE
 have hsp:sp=none:=by
  unfold World.cell? at hc
  cases sp with
  | none=>rfl
  | some k=>split at hc<;>simp at hc
 subst hsp
 have hg:Tryz.prog.globalNamed "strconv.ErrSyntax" = some 6:=by kernel_rfl
 have hcell:W.cell? ⟨6,0,none⟩=some (.iface 270 (.pointer (some ⟨b,o,none⟩))):=by
  have:=World.var?_cell hg hv 0
  simpa using this
 have hG:=EZ h1 h2 h3 h5
 refine⟨.gptr b o,fun g o' p hp=>?_,fun g hg'=>?_⟩
 ·unfold di at hp
  by_cases e0:g=6
  ·subst e0
   rw[if_pos rfl] at hp
   cases o' with
   | zero=>cases hp;exact⟨World.block_lt_of_cell? W _ hcell,_,hcell,rfl,.iface _ _ _ (.gptr _ _)⟩
   | succ o'=>simp at hp
  ·rw[if_neg e0] at hp
   exact hG.1 g o' p hp
 ·unfold di at hg' ⊢
  by_cases e0:g=6
  ·subst e0
   rw[if_pos rfl]
   unfold World.var? at hv
   rw[hg] at hv
   simp only[Option.bind_some] at hv
   split at hv
   ·rename_i cs T fz hh
    cases hv
    exact⟨_,T,fz,hh,rfl⟩
   ·cases hv
  ·rw[if_neg e0] at hg' ⊢
   exact hG.2 g hg'
end Go.Proofs.YtamoeblcphjbaaaGreatDoor
