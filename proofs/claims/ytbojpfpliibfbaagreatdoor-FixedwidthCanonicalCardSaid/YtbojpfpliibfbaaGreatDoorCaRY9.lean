/- A part of the proof. -/
import Derived.Test.YtbojpfpliibfbaaGreatDoorCaRY5
import Derived.Stop.LaidErr
import Derived.WalkKit
import Derived.Lib.LaidTab
import Derived.SevenTiedAt
import Derived.Test.YtbojpfpliibfbaaGreatDoorCards
import Derived.Test.YtbojpfpliibfbaaGreatDoorTie
set_option maxHeartbeats 16000000
set_option maxRecDepth 100000
set_option linter.unusedVariables false
set_option linter.unusedSimpArgs false
namespace Go.Proofs.YtbojpfpliibfbaaGreatDoor
open Go Go.Ab
attribute [local irreducible] vc
theorem Mm {f:List TFd}{l:List (List UInt8)}{i:Nat}{g:TFd}{c:List UInt8}(hg:f[i]? = some g)(hc:l[i]? = some c):(f.zip l)[i]? = some (g,c):=by
 rw[List.getElem?_zip_eq_some];exact⟨hg,hc⟩
theorem Lp (k m M sc:Int)(wd:List (List UInt8))(el:List Typ)(f:List TFd)(l:List (List UInt8))(hf:f.length<=9000000000000)(hl:∀ x∈l,x.length<=1000000)(hll:l.length<=1000000):ag Tryz.prog au 22 [(Typ.mk k m M sc wd el f).pv,.list (l.map PV.str)] (.bool ((f.zip l).any xr)):=by
 obtain⟨R,hR⟩:∃ R,R=(f.zip l).any xr:=⟨_,rfl⟩
 rw[<- hR]
 refine ag.intro Q22.2 (by simp[Q22]) ?_
 simp(maxSteps:=9^7) (disch:=try exact dI) only[Q22,Typ.pv_mk,push_cast,seval]
 refine az ([]) (fun i:Nat=>[(5,.pv (.int .i64 (i:Int)))]) (fun _=>[]) (fun i=>i<=l.length/\i<=f.length/\R=((f.zip l).drop i).any xr) (fun i=>l.length - i) (0) ?_;intro e0 σ0 n0 h0;simp(maxSteps:=9^7) (disch:=try exact dI) only[push_cast,seval] at h0;obtain⟨rfl,rfl,rfl⟩:=h0;refine⟨?_,?_,?_⟩
 ·simp(maxSteps:=9^7) (disch:=try exact dI) only[push_cast,seval]
 ·exact⟨by omega,by omega,by simpa using hR⟩
 rintro i ⟨h1,h2,hr⟩
 by_cases a:i<l.length
 ·have aI:(i:Int)<(l.length:Int):=by omega
  obtain⟨c,hc⟩:∃ c,l[i]? = some c:=⟨_,List.getElem?_eq_getElem a⟩
  have hcp:(l.map PV.str)[i]? = some (.str c):=by simp[hc]
  by_cases b:i<f.length
  ·have bI:(i:Int)<(f.length:Int):=by omega
   obtain⟨g,hg⟩:∃ g,f[i]? = some g:=⟨_,List.getElem?_eq_getElem b⟩
   have h56:=Lo c (hl c (List.mem_of_getElem? hc))
   rw[cu (Mm hg hc),List.any_cons] at hr
   have hbd:xr (g,c)=(decide (g.need=3)&&decide (trR c=[])):=rfl
   rw[hbd] at hr
   clear hbd
   have dt:g.need=3->decide (g.need=3)=true:=fun h=>decide_eq_true h
   have df:¬ g.need=3->decide (g.need=3)=false:=fun h=>decide_eq_false h
   generalize decide (trR c=[])=B at *
   generalize decide (g.need=3)=D at *
   obtain⟨n',nm',nd',⟨k',m',M',s',w',e',f'⟩,d'⟩:=g
   simp only[TFd.need] at dt df
   by_cases n3:nd'=3
   ·rw[dt n3,Bool.true_and] at hr
    simp(maxSteps:=9^7) (disch:=try exact dI) only[aI,bI,hg,Option.map_some,TFd.pv_mk,Typ.pv_mk,am,n3,hcp,push_cast,seval]
    refine ab.pure h56 rfl ?_
    cases B with
    | true=>
      rw[Bool.true_or] at hr
      subst hr
      simp(maxSteps:=9^7) (disch:=try exact dI) only[push_cast,seval]
    | false=>
      rw[Bool.false_or] at hr
      simp(maxSteps:=9^7) (disch:=try exact dI) only[push_cast,seval]
      exact⟨i+1,aZ qsZ,⟨by omega,by omega,hr⟩,by omega⟩
   ·rw[df n3,Bool.false_and,Bool.false_or] at hr
    simp(maxSteps:=9^7) (disch:=try exact dI) only[aI,bI,hg,Option.map_some,TFd.pv_mk,Typ.pv_mk,am,n3,hcp,push_cast,seval]
    exact⟨i+1,aZ qsZ,⟨by omega,by omega,hr⟩,by omega⟩
  ·have bI:¬ (i:Int)<(f.length:Int):=by omega
   rw[List.drop_of_length_le (by rw[List.length_zip];omega),List.any_nil] at hr
   subst hr
   simp(maxSteps:=9^7) (disch:=try exact dI) only[aI,bI,push_cast,seval]
 ·have aI:¬ (i:Int)<(l.length:Int):=by omega
  rw[List.drop_of_length_le (by rw[List.length_zip];omega),List.any_nil] at hr
  subst hr
  simp(maxSteps:=9^7) (disch:=try exact dI) only[aI,push_cast,seval]
theorem Sb {T:Nat}{p:PV}(t:Typ)(ht:t.ok)(w0:List Int)(s0:List UInt8)(hs0:s0.length<=140737488351232):ag Tryz.prog (dN T p) 7 [t.pv,.list (bJ w0),.str s0] (.bool true):=by
 have hk:=toE (T:=T) (p:=p) Ku
 have hc:=toE (T:=T) (p:=p) (QM w0)
 have hsh:=toE (T:=T) (p:=p) (IZ s0 hs0)
 have hll:(s0.take 10000).length<=10000:=by rw[List.length_take];omega
 generalize w0.take 70=w at *
 generalize s0.take 10000=line at *
 obtain⟨P,V,n,e,h17,hnz,hVo,hP,hok,_⟩:=N3 (T:=T) (p:=p) t ht w line (by omega)
 by_cases he:e=0
 ·subst he
  obtain⟨rfl,⟨L,rfl⟩,v,hD,hV⟩:=hok rfl
  obtain⟨Tx,hT,hTl,hcan⟩:=Lj ht (by omega) hD
  have hfit:=Ct ht (by omega) hD
  rw[<- hV] at hT hfit
  have h14:=(toE (T:=T) (p:=p) (xE t ht w V hVo hD.rep hfit Tx (fun g hg=>RQ (hT g hg)) hTl)).nz (.cons _ _ _ _ (.refl _) (.cons _ _ _ _ (.refl _) (.cons _ _ _ _ hnz .nil)))
  obtain⟨_,hlen,h64,h0,hfl⟩:=gq ht hD.rep
  have h21:=toE (T:=T) (p:=p) (EE line v (by omega) hD.bnd (by rw[<- hD.len];omega))
  rw[if_pos hD.sum,show iC line.length ((v.sum:Nat):Int)=0 by unfold iC;rw[if_neg (by rw[hD.sum];omega),if_neg (by rw[hD.sum];omega)],show Dz line v v.length=((List.range v.length).map (bd line v)).map PV.str by unfold Dz;rw[List.map_map];rfl,<- fu,<- hD.nat] at h21
  have h22:ag Tryz.prog (dN T p) 22 [t.pv,.list (((List.range v.length).map (bd line v)).map PV.str)] (.bool ((cD t.fields line v).any xr)):=by
   obtain⟨k,m,M,sc,wd,el,f⟩:=t
   refine toE (Lp k m M sc wd el f _ ?_ (fun x hx=>?_) ?_)
   ·simp only[Typ.fields] at hlen;omega
   ·obtain⟨i,_,rfl⟩:=List.mem_map.1 hx
    unfold bd
    rw[List.length_drop,List.length_take];omega
   ·rw[List.length_map,List.length_range,<- hD.len];omega
  generalize (cD t.fields line v).any xr=B at hcan h22
  generalize ((List.range v.length).map (bd line v)).map PV.str=CL at h21 h22
  have h19:ag Tryz.prog (dN T p) 19 [V.pv,V.pv] (.bool true):=toE (KW V hVo)
  rcases tL t.fields w [] (T:=Tx) with z0 | z6
  ·obtain⟨vn,hD2,hV2,hl2⟩:=A8 ht hD.rep hfit hT hTl z0
   obtain⟨P2,V2,n2,e2,h17b,hnz2,hVo2,hP2,hok2,hgd2⟩:=N3 (T:=T) (p:=p) t ht w _ hl2
   obtain⟨g1,g2⟩:=hgd2 vn hD2
   rw[hV2] at g2
   subst g1
   obtain⟨rfl,⟨L2,rfl⟩,_⟩:=hok2 rfl
   rw[g2] at hnz2
   replace h19:=h19.nz (.cons _ _ _ _ hnz (.cons _ _ _ _ hnz2 .nil))
   have hsl:¬ (gN Tx t.fields w []).1=line->B=true:=fun hh=>by
    cases hB:B with
    | true=>rfl
    | false=>exact absurd (by rw[hcan hB]) hh
   rw[z0] at h14
   clear hgd2 hok2 hP2 hVo2 hnz2 g2 hV2 hD2 hl2 hcan z0 hT hTl hfit hV hD hok hP hVo hnz h0 hfl h64 hlen hll
   generalize (gN Tx t.fields w []).1=S at *
   generalize bJ w0=L0 at *
   generalize bJ w=L1 at *
   obtain⟨k,m,M,sc,wd,el,f⟩:=t
   simp only[Typ.pv_mk,zx] at h14 h17 h17b h19 h22 ⊢
   refine ag.intro Q7.2 (by simp[Q7]) ?_
   simp(maxSteps:=9^7) (disch:=try exact dI) only[Q7,Typ.pv_mk,push_cast,seval]
   refine ab.pure hc rfl ?_
   simp(maxSteps:=9^7) (disch:=try exact dI) only[push_cast,seval]
   refine ab.pure hsh rfl ?_
   simp(maxSteps:=9^7) (disch:=try exact dI) only[push_cast,seval]
   refine ab.pure h17 rfl ?_
   simp(maxSteps:=9^7) (disch:=try exact dI) only[push_cast,seval]
   refine ab.pure hk rfl ?_
   simp(maxSteps:=9^7) (disch:=try exact dI) only[push_cast,seval]
   refine ab.pure h14 rfl ?_
   simp(maxSteps:=9^7) (disch:=try exact dI) only[push_cast,seval]
   refine ab.pure h21 rfl ?_
   simp(maxSteps:=9^7) (disch:=try exact dI) only[push_cast,seval]
   refine ab.pure h17b rfl ?_
   simp(maxSteps:=9^7) (disch:=try exact dI) only[push_cast,seval]
   refine ab.pure h19 rfl ?_
   by_cases hs:S=line
   ·simp(maxSteps:=9^7) (disch:=try exact dI) only[hs,push_cast,seval]
   ·rw[hsl hs] at h22
    simp(maxSteps:=9^7) (disch:=try exact dI) only[hs,push_cast,seval]
    refine ab.pure h22 rfl ?_
    simp(maxSteps:=9^7) (disch:=try exact dI) only[push_cast,seval]
  ·have hB:B=true:=by
    cases hB:B with
    | true=>rfl
    | false=>rw[hcan hB] at z6;cases z6
   rw[z6] at h14
   rw[hB] at h22
   clear hcan z6 hT hTl hfit hV hD hok hP hVo hnz h0 hfl h64 hlen hll h19
   generalize (gN Tx t.fields w []).1=S at *
   generalize bJ w0=L0 at *
   generalize bJ w=L1 at *
   obtain⟨k,m,M,sc,wd,el,f⟩:=t
   simp only[Typ.pv_mk,zx] at h14 h17 h22 ⊢
   refine ag.intro Q7.2 (by simp[Q7]) ?_
   simp(maxSteps:=9^7) (disch:=try exact dI) only[Q7,Typ.pv_mk,push_cast,seval]
   refine ab.pure hc rfl ?_
   simp(maxSteps:=9^7) (disch:=try exact dI) only[push_cast,seval]
   refine ab.pure hsh rfl ?_
   simp(maxSteps:=9^7) (disch:=try exact dI) only[push_cast,seval]
   refine ab.pure h17 rfl ?_
   simp(maxSteps:=9^7) (disch:=try exact dI) only[push_cast,seval]
   refine ab.pure hk rfl ?_
   simp(maxSteps:=9^7) (disch:=try exact dI) only[push_cast,seval]
   refine ab.pure h14 rfl ?_
   simp(maxSteps:=9^7) (disch:=try exact dI) only[push_cast,seval]
   refine ab.pure h21 rfl ?_
   simp(maxSteps:=9^7) (disch:=try exact dI) only[push_cast,seval]
   refine ab.pure h22 rfl ?_
   simp(maxSteps:=9^7) (disch:=try exact dI) only[push_cast,seval]
 ·clear hok hnz hVo
  generalize bJ w0=L0 at *
  generalize bJ w=L1 at *
  obtain⟨k,m,M,sc,wd,el,f⟩:=t
  simp only[Typ.pv_mk] at h17 ⊢
  refine ag.intro Q7.2 (by simp[Q7]) ?_
  simp(maxSteps:=9^7) (disch:=try exact dI) only[Q7,Typ.pv_mk,push_cast,seval]
  refine ab.pure hc rfl ?_
  simp(maxSteps:=9^7) (disch:=try exact dI) only[push_cast,seval]
  refine ab.pure hsh rfl ?_
  simp(maxSteps:=9^7) (disch:=try exact dI) only[push_cast,seval]
  refine ab.pure h17 rfl ?_
  rcases hP with rfl | ⟨L,rfl⟩
  all_goals
   simp only[eP,zx] at h17 ⊢
   simp(maxSteps:=9^7) (disch:=try exact dI) only[push_cast,seval]
   refine ab.pure hk rfl ?_
   simp(maxSteps:=9^7) (disch:=try exact dI) only[he,push_cast,seval]
   refine ab.pure hk rfl ?_
   simp(maxSteps:=9^7) (disch:=try exact dI) only[push_cast,seval]
theorem pA (q:PV)(p0 p1 p2:PV)(h0:HasT Tryz.prog 26 p0)(h1:HasT Tryz.prog 27 p1)(h2:HasT Tryz.prog 9 p2):ag Tryz.prog (dN 297 q) 7 [p0,p1,p2] (.bool true):=by
 obtain⟨t,rfl,ht⟩:=F9 h0
 obtain⟨w,rfl,_,_⟩:=nh (f:=PV.int .i64) (Q:=I64) h1 Tryz.underlying27 QW (fun x hx=>ci hx Tryz.underlying3)
 obtain⟨s,rfl,hs⟩:=gI h2 Tryz.underlying9
 exact Sb t ht w s hs
open Go.Lib Go.Proofs
theorem u8X:U8Extra Tryz.prog Tryz.lays196_ren:=⟨by kernel_rfl,by kernel_rfl,by kernel_rfl,by kernel_rfl,by kernel_rfl,by kernel_rfl,by kernel_rfl⟩
theorem Gf {W:World}(h1:VarReads Tryz.prog W "unicode/utf8.first" firstData) (h2:VarReads Tryz.prog W "unicode/utf8.acceptRanges" acceptData)
  (h3:VarReads Tryz.prog W "internal/strconv.uint64pow10" (tabData .u64 pow10Tab)):bX au W (nj W):=by
 have hu:=utf8Tabs_of_readsT (U8Types.of196 Tryz.lays196) u8X h1 h2
 refine BE fun g hg=>?_
 unfold au at hg ⊢
 by_cases e3:g=3
 ·subst e3
  exact uC (t:=277) (e:=169) (m:=20) h3 (by kernel_rfl) (by kernel_rfl) (by kernel_rfl) (by kernel_rfl) (by kernel_rfl) (by kernel_rfl) (by kernel_rfl)
 rw[if_neg e3] at hg ⊢
 by_cases e1:g=1
 ·subst e1
  rw[if_pos rfl] at hg ⊢
  refine mO (t:=245) (e:=5) (m:=256) h1 (by kernel_rfl) (by kernel_rfl) (by kernel_rfl) (by kernel_rfl) fun o p hp=>?_
  rw[Pi,List.getElem?_map,Option.map_eq_some_iff] at hp
  obtain⟨c,hc,rfl⟩:=hp
  obtain⟨hlt,hcc⟩:=List.getElem?_eq_some_iff.1 hc
  simp at hlt hcc
  subst hcc
  exact⟨_,_,rfl,hu.1 o hlt⟩
 rw[if_neg e1] at hg ⊢
 by_cases e2:g=2
 ·subst e2
  rw[if_pos rfl] at hg ⊢
  refine mO (t:=248) (e:=247) (m:=16) h2 (by kernel_rfl) (by kernel_rfl) (by kernel_rfl) (by kernel_rfl) fun o p hp=>?_
  rw[LP,List.getElem?_map,Option.map_eq_some_iff] at hp
  obtain⟨c,hc,rfl⟩:=hp
  obtain⟨hlt,hcc⟩:=List.getElem?_eq_some_iff.1 hc
  simp at hlt hcc
  subst hcc
  have:=hu.2 (o / 2) (by omega)
  by_cases ho:o % 2=0
  ·rw[if_pos ho]
   refine⟨_,_,rfl,?_⟩
   have:=this.1
   rwa [show 2*(o / 2)=o by omega] at this
  ·rw[if_neg ho]
   refine⟨_,_,rfl,?_⟩
   have:=this.2
   rwa [show 2*(o / 2)+1=o by omega] at this
 rw[if_neg e2] at hg
 exact absurd rfl hg
open Go.RowKit Go.ChangeShapes
theorem MF : "*" ++ "errors.errorString" = "*errors.errorString":=by decide
theorem MZ (u:TypeId)(h:Tryz.prog.typeName? 3 u=some "*errors.errorString"):u=297:=
 typeName_ptr_named (nm:= "errors.errorString") (by rw[MF];kernel_rfl) (by kernel_rfl) (by decide) u (by rw[MF];exact h)
theorem NU {text:List UInt8}{r:List (String×DataW Unit)}{W:World}(h:laidMet Tryz.prog (("strconv.ErrSyntax",.iface "*errors.errorString" (.ptr (.agg [.lit (.string text)])))::r) W) :
  ∃ (a:Addr) (s:ByteArray),W.var? Tryz.prog "strconv.ErrSyntax" = some #[.iface 297 (.pointer (some a))]/\W.cell? a=some (.string s)/\s.data.toList=text/\s.size<=maxLen:=
 laid_sentinel h (g:=4) (ti:=84) (te:=299) (ts:=9) (by kernel_rfl) (by kernel_rfl) Tryz.underlying84 MZ Tryz.underlying297 Tryz.underlying299 rfl rfl Tryz.underlying9 (by kernel_rfl) (by kernel_rfl)
theorem BD {W:World}(h1:VarReads Tryz.prog W "unicode/utf8.first" firstData) (h2:VarReads Tryz.prog W "unicode/utf8.acceptRanges" acceptData)
  (h3:VarReads Tryz.prog W "internal/strconv.uint64pow10" (tabData .u64 pow10Tab))
  (hE:∃ (a:Addr) (s:ByteArray),W.var? Tryz.prog "strconv.ErrSyntax" = some #[.iface 297 (.pointer (some a))]/\W.cell? a=some (.string s)):∃ p,bX (dN 297 p) W (nj W):=by
 obtain⟨⟨b,o,sp⟩,s,hv,hc⟩:=hE
 have hsp:sp=none:=by
  unfold World.cell? at hc
  cases sp with
  | none=>rfl
  | some k=>split at hc<;>simp at hc
 subst hsp
 have hg:Tryz.prog.globalNamed "strconv.ErrSyntax" = some 4:=by kernel_rfl
 have hcell:W.cell? ⟨4,0,none⟩=some (.iface 297 (.pointer (some ⟨b,o,none⟩))):=by
  have:=World.var?_cell hg hv 0
  simpa using this
 have hG:=Gf h1 h2 h3
 refine⟨.gptr b o,fun g o' p hp=>?_,fun g hg'=>?_⟩
 ·unfold dN at hp
  by_cases e0:g=4
  ·subst e0
   rw[if_pos rfl] at hp
   cases o' with
   | zero=>cases hp;exact⟨World.block_lt_of_cell? W _ hcell,_,hcell,rfl,.iface _ _ _ (.gptr _ _)⟩
   | succ o'=>simp at hp
  ·rw[if_neg e0] at hp
   exact hG.1 g o' p hp
 ·unfold dN at hg' ⊢
  by_cases e0:g=4
  ·subst e0
   rw[if_pos rfl]
   unfold World.var? at hv
   rw[hg] at hv
   simp only[Option.bind_some] at hv
   split at hv
   ·rename_i cs T fz hh
    cases hv
    exact⟨_,T,fz,hh,rfl⟩
   ·cases hv
  ·rw[if_neg e0] at hg' ⊢
   exact hG.2 g hg'
end Go.Proofs.YtbojpfpliibfbaaGreatDoor
namespace Go.Proofs.YtbojpfpliibfbaaGreatDoor.fixedwidthCanonicalDone
open Go Go.Ab Go.RowKit Go.ChangeShapes Go.WideShapes Go.ChangeAt
theorem own:ownKnob Tryz.prog.godebug=none:=by kernel_rfl
theorem Kt:laidOutB Tryz.prog=true:=by kernel_rfl
theorem Qv {W:World}(h:laidMetH Tryz.prog Rows.fixedwidthCanonicalRow.laid W):∃ p,bX (dN 297 p) W (nj W):=by
 have h':laidMet Tryz.prog Rows.fixedwidthCanonicalRow.laid W:=h
 obtain⟨a,s,e1,e2,_⟩:=NU (((((h'.tail).tail).tail).tail).tail)
 exact BD (Go.Lib.laidMet.reads h' (n:= "unicode/utf8.first") (d:=Go.Lib.firstData) (by rw[show Go.Lib.firstData=(Rows.laid_unicode_utf8_first:DataW Unit) by kernel_rfl];exact List.Mem.tail _ (List.Mem.tail _ (List.Mem.tail _ (List.Mem.tail _ (List.Mem.tail _ (List.Mem.tail _ (List.Mem.head _))))))))
  (Go.Lib.laidMet.reads h' (n:= "unicode/utf8.acceptRanges") (d:=Go.Lib.acceptData) (by rw[show Go.Lib.acceptData=(Rows.laid_unicode_utf8_acceptRanges:DataW Unit) by kernel_rfl];exact List.Mem.tail _ (List.Mem.tail _ (List.Mem.tail _ (List.Mem.head _)))))
  (Go.Lib.laidMet.reads h' (n:= "internal/strconv.uint64pow10") (d:=(Go.Lib.tabData .u64 Go.Lib.pow10Tab)) (by rw[show (Go.Lib.tabData .u64 Go.Lib.pow10Tab)=(Rows.laid_internal_strconv_uint64pow10:DataW Unit) by kernel_rfl];exact List.Mem.tail _ (List.Mem.tail _ (List.Mem.head _))))
  ⟨a,s,e1,e2⟩
theorem Qu:Tryz.f7.params = #[26,27,9]:=by kernel_rfl
theorem jB (H:Type)(enc:TypeId×Value->H)(W:World)(base:Nat)(args:Array Value)(ds gs:List (DataW H))(before:List MemPlace)
  (hval:∀ (j:Nat) t v,Tryz.f7.params[j]? = some t->args[j]? = some v->Value.okWide Tryz.prog W .any base t v)
  (hW:DataW.Whole enc Tryz.prog Tryz.f7.params.toList Rows.fixedwidthCanonicalSpec.vars false W args.toList ds gs before) (hsz:(DataW.weightsEach Tryz.prog (Tryz.f7.params.toList++Rows.fixedwidthCanonicalSpec.plain.varTypes Tryz.prog) (ds++gs)).all (·<=reachBytes)=true) (hL:laidMetH Tryz.prog Rows.fixedwidthCanonicalRow.laid W) :
  Calls Tryz.prog 7 args W fun e W'=>∃ v,e = .returned v/\Rows.fixedwidthCanonicalSpec.post enc Tryz.prog Tryz.f7 false true false false W args v W':=by
 obtain⟨p,hp0⟩:=Qv hL
 refine FP (ts:=[26,3,22,9,23,24,54,33,36,34,60,27,4]) (tb:=4) (G:=dN 297 p) rfl Kt (by decide +kernel) (by kernel_rfl) (by decide +kernel) (by kernel_rfl) (by kernel_rfl) ?_ hval hW hsz hp0 ?_
 ·intro ds hd
  rw[Qu] at hd
  match ds,hd with
  | [d0,d1,d2],_=>rfl
 ·intro ps hp hT
  rw[Qu] at hp hT
  match ps,hp with
  | [p0,p1,p2],_=>
    exact pA p p0 p1 p2 (hT 0 26 p0 rfl rfl) (hT 1 27 p1 rfl rfl) (hT 2 9 p2 rfl rfl)
def wc:DataW Unit->List Value
 | .lit (.int k n)=>[Value.int k n]
 | .agg xs=>xs.map fun x=>match x with
   | .lit (.int k n)=>Value.int k n
   | _=>Go.undef
 | _=>[]
def Bc:DataW Unit->Array Value
 | .agg xs=>(xs.flatMap wc).toArray
 | _=>#[]
def oh (d:DataW Unit):Obj->Obj
 | .cells _ t frozen=>.cells (Bc d) t frozen
 | o=>o
def HY (d:DataW Unit):Obj:=
 match d with
 | .iface _ (.ptr (.agg [.lit (.string bs)]))=>.cells #[.string ⟨bs.toArray⟩] 299
 | _=>.cells #[] 299
def Hq (k:Nat):Obj->Obj
 | .cells _ t frozen=>.cells #[.iface 297 (.pointer (some ⟨k,0,none⟩))] t frozen
 | o=>o
noncomputable def dZ (os:Os):World:=
 { World.holding Tryz.prog os ⟨#[],#[],[]⟩ with heap:=((((((((((World.holding Tryz.prog os ⟨#[],#[],[]⟩).heap.push (HY Rows.laid_strconv_ErrRange)).push (HY Rows.laid_strconv_ErrSyntax)).modify 6 (oh Rows.laid_math_bits_deBruijn32tab)).modify 7 (oh Rows.laid_math_bits_deBruijn64tab)).modify 3 (oh Rows.laid_internal_strconv_uint64pow10)).modify 2 (oh Rows.laid_unicode_utf8_acceptRanges)).modify 5 (Hq ((World.holding Tryz.prog os ⟨#[],#[],[]⟩).heap.size+0))).modify 4 (Hq ((World.holding Tryz.prog os ⟨#[],#[],[]⟩).heap.size+1))).modify 1 (oh Rows.laid_unicode_utf8_first)) }
theorem FQ (os:Os):laidMet Tryz.prog Rows.fixedwidthCanonicalRow.laid ((dZ os).forCall (fun _ _=>0) ⟨#[],#[.agg #[.int .i64 0,.int .i64 0,.int .i64 0,.int .i64 0,.slice none 0 0,.slice none 0 0,.slice none 0 0],.slice none 0 0,.string ⟨#[]⟩],[]⟩).memory:=
 laidMet_of_run' 8 (by kernel_rfl) (by kernel_rfl)
theorem reads (os:Os){H:Type}(enc:TypeId×Value->H):∃ places,DataW.whole enc Tryz.prog ((dZ os).forCall (fun _ _=>0) ⟨#[],#[.agg #[.int .i64 0,.int .i64 0,.int .i64 0,.int .i64 0,.slice none 0 0,.slice none 0 0,.slice none 0 0],.slice none 0 0,.string ⟨#[]⟩],[]⟩).memory Tryz.f7.params.toList Rows.fixedwidthCanonicalSpec.vars false (#[.agg #[.int .i64 0,.int .i64 0,.int .i64 0,.int .i64 0,.slice none 0 0,.slice none 0 0,.slice none 0 0],.slice none 0 0,.string ⟨#[]⟩]:Array Value).toList 8=some ([.agg [.lit (.int .i64 0),.lit (.int .i64 0),.lit (.int .i64 0),.lit (.int .i64 0),.nil,.nil,.nil],.nil,.lit (.string [])],[],places):=
 ⟨[],by kernel_rfl⟩
theorem PR:Tryz.checked.prog.inits.idxOf? 7=none:=by kernel_rfl
theorem PP (os:Os):World.variablesB Tryz.checked.prog ((dZ os).forCall (fun _ _=>0) ⟨#[],#[.agg #[.int .i64 0,.int .i64 0,.int .i64 0,.int .i64 0,.slice none 0 0,.slice none 0 0,.slice none 0 0],.slice none 0 0,.string ⟨#[]⟩],[]⟩)=true:=by kernel_rfl
theorem PQ (os:Os):List.take ((begin Tryz.checked.prog (fun _ _=>0) default).world.heap.size - Tryz.checked.prog.globals.size) (List.drop Tryz.checked.prog.globals.size ((dZ os).forCall (fun _ _=>0) ⟨#[],#[.agg #[.int .i64 0,.int .i64 0,.int .i64 0,.int .i64 0,.slice none 0 0,.slice none 0 0,.slice none 0 0],.slice none 0 0,.string ⟨#[]⟩],[]⟩).heap.toList)=List.drop Tryz.checked.prog.globals.size (begin Tryz.checked.prog (fun _ _=>0) default).world.heap.toList:=by kernel_rfl
theorem PO (os:Os):Input.okWideB Tryz.checked.prog ((dZ os).forCall (fun _ _=>0) ⟨#[],#[.agg #[.int .i64 0,.int .i64 0,.int .i64 0,.int .i64 0,.slice none 0 0,.slice none 0 0,.slice none 0 0],.slice none 0 0,.string ⟨#[]⟩],[]⟩) 7 ⟨#[],#[.agg #[.int .i64 0,.int .i64 0,.int .i64 0,.int .i64 0,.slice none 0 0,.slice none 0 0,.slice none 0 0],.slice none 0 0,.string ⟨#[]⟩],[]⟩=true:=by kernel_rfl
theorem Nv (os:Os)(started:os.Started)(H:Type)(enc:TypeId×Value->H)(F:Stop.Interp) :
  ReturnsInHanded {} Tryz.checked os 7 .any ((OpenSpec.ofChange Rows.fixedwidthCanonicalSpec).preRow enc Tryz.prog Tryz.f7 Rows.fixedwidthCanonicalRow.domain false Rows.fixedwidthCanonicalRow.laid) (((OpenSpec.ofChange Rows.fixedwidthCanonicalSpec).at F).post enc Tryz.prog Tryz.f7 false true false false):=by
 obtain⟨places,hx⟩:=reads os enc
 refine returnsInHanded_of_row (C:=Tryz.checked) (s:=OpenSpec.ofChange Rows.fixedwidthCanonicalSpec) own started PR Tryz.func7
  (witness_row_at (enc:=enc) (C:=Tryz.checked) false (dZ os) #[.agg #[.int .i64 0,.int .i64 0,.int .i64 0,.int .i64 0,.slice none 0 0,.slice none 0 0,.slice none 0 0],.slice none 0 0,.string ⟨#[]⟩] rfl (PP os) (PQ os) (PO os)
   (OpenSpec.preRow_of_cond 8 hx (by kernel_rfl) (fun k hk=>by cases hk) (by kernel_rfl) (FQ os))) ?_
 intro W base args ds gs before hval hW _ _ hsz hL _ _
 exact jB H enc W base args ds gs before hval hW hsz hL
theorem Qy:joinedFacts Tryz.pinned.checked.prog 7 Tryz.f7 (OpenSpec.ofChange Rows.fixedwidthCanonicalSpec).bare Rows.fixedwidthCanonicalRow=true:=by
 unfold joinedFacts
 repeat' (with_reducible refine Bool.and_eq_true_iff.2 ⟨?_,?_⟩)
 all_goals as_aux_lemma=>kernel_rfl
end Go.Proofs.YtbojpfpliibfbaaGreatDoor.fixedwidthCanonicalDone
