/- A part of the proof. -/
import Derived.Test.YtbojpfpliibfbaaGreatDoorRtRE9
import Derived.Stop.LaidErr
import Derived.WalkKit
import Derived.Lib.LaidTab
import Derived.SevenTiedAt
import Derived.Test.YtbojpfpliibfbaaGreatDoorCards
import Derived.Test.YtbojpfpliibfbaaGreatDoorTie
set_option maxHeartbeats 16000000
set_option maxRecDepth 100000
set_option linter.unusedVariables false
set_option linter.unusedSimpArgs false
namespace Go.Proofs.YtbojpfpliibfbaaGreatDoor
open Go Go.Ab
theorem sN {v:List Nat}:∀ (Z:List (TFd×List UInt8)) (i:Nat),(∀ x∈Z,np x.1 x.2=0)->ke v Z i=(0,0)
 | [],_,_=>rfl
 | x::r,i,h=>by
   rw[ke,if_pos (h x (List.mem_cons_self ..))]
   exact sN r (i+1) fun y hy=>h y (List.mem_cons_of_mem _ hy)
theorem sk:∀ {a b:List Nat},(a.map fun n:Nat=>(n:Int))=b.map (fun n:Nat=>(n:Int))->a=b
 | [],[],_=>rfl
 | [],_::_,h=>by simp at h
 | _::_,[],h=>by simp at h
 | x::a,y::b,h=>by
   simp only[List.map_cons,List.cons.injEq] at h
   rw[sk h.2,show x=y by omega]
theorem Pz {T:Nat}{p:PV}(t:Typ)(ht:t.ok)(w:List Int)(line:List UInt8)(hll:line.length<=1000000):∃ (P:PV) (V:Val) (n e:Int),
  ag Tryz.prog (dW T p) 17 [t.pv,.list (bz w),.str line] (.tup [P,.int .i64 n,.int .i64 e])/\Nz P V.pv/\V.ok /\
  (P=eH\/∃ L,P=DH L)/\(e=0->n=0/\(∃ L,P=DH L)/\∃ v,DecOk t w line v/\V=nI ((dQ t.fields line v).map lz))/\∀ v,DecOk t w line v->e=0/\V=nI ((dQ t.fields line v).map lz):=by
 by_cases he:kC t w=0
 ·obtain⟨hb,hlen,h64,h0,hfl⟩:=rL ht he
  have hba:w.any Ci=false:=by
   unfold FJ at hb
   rw[Bool.or_eq_false_iff] at hb;exact hb.2
  obtain⟨v,hw,hs,hv⟩:=zU hba
  have hvv:∀ v',DecOk t w line v'->v'=v:=fun v' h=>sk (by rw[<- hw,<- h.nat])
  have hvl:t.fields.length=v.length:=by rw[<- hlen,hw,List.length_map]
  have hs0:=l8 w fun x hx=>dO hba hx
  by_cases hne:line.length=v.sum
  ·have hco:=mW h0 ht hfl
   have h12:=kY t ht w
   have h50:=pp w (by omega)
   rw[hb,if_neg (by decide),if_neg (by decide),hs] at h50
   have hF:ke v (dQ t.fields line v) 0=(0,0)->∀ x∈dQ t.fields line v,np x.1 x.2=0:=fun h=>(kb _ 0 (by rw[h])).2
   have hZl:=rk (line:=line) hvl
   have hfs:=fun h=>lH (w:=w) ht h0 hfl hvl hll (hF h)
   have hl65:((dQ t.fields line v).map lz).length<=65000:=by rw[List.length_map];omega
   have hr17:ke v (dQ t.fields line v) 0=(0,0)->ag Tryz.prog au 55 [.list ((dQ t.fields line v).map fC)] (DH ((nI ((dQ t.fields line v).map lz)).fields.map Fld.pv)):=fun h=>by
    obtain⟨f1,f2⟩:=hfs h
    have h55:=DF _ hl65 f1 f2
    unfold nI at h55 ⊢
    rw[Val.pv_mk] at h55
    exact h55.nz (.cons _ _ _ _ (.list _ _ (GJ _)) .nil)
   rw[he,hw,gU] at h12
   rw[hw,gU] at h50
   have hi:bz w=eE v:=by rw[hw,gU]
   have hf64:t.fields.length<=64:=by omega
   have h17:ag Tryz.prog (dW T p) 17 [t.pv,.list (eE v),.str line] (.tup [if (ke v (dQ t.fields line v) 0).2=0 then DH ((nI ((dQ t.fields line v).map lz)).fields.map Fld.pv) else eH,.int .i64 (ke v (dQ t.fields line v) 0).1,.int .i64 (ke v (dQ t.fields line v) 0).2]):=by
    obtain⟨k,m,M,sc,wd,el,f⟩:=t
    exact vO k m M sc wd el f v line _ h12 h50 hne hll hvl hf64 hv hco hr17
   rw[<- hi] at h17
   by_cases hz:(ke v (dQ t.fields line v) 0).2=0
   ·rw[if_pos hz] at h17
    obtain⟨e1,e2⟩:=kb _ 0 hz
    obtain⟨f1,f2⟩:=hfs e1
    have hVo:(nI ((dQ t.fields line v).map lz)).ok:=by
     unfold nI
     rw[Val.ok_mk]
     refine⟨⟨by omega,by omega⟩,⟨by omega,by omega⟩,⟨by omega,by omega⟩,by simp,by simp,by simp,?_,fun x hx=>f1 x (List.mem_filter.1 ((ma _).mem_iff.1 hx)).1⟩
     have h5:((dQ t.fields line v).map lz).length<=64:=by rw[List.length_map];omega
     have:=List.length_filter_le cW ((dQ t.fields line v).map lz)
     rw[fB];omega
    refine⟨_,nI ((dQ t.fields line v).map lz),_,_,h17,?_,hVo,.inr ⟨_,rfl⟩,fun _=>⟨by rw[e1],⟨_,rfl⟩,v,⟨he,hw,hne,hvl,hv,e2⟩,rfl⟩,fun v' h=>⟨hz,by rw[hvv v' h]⟩⟩
    unfold nI DH
    rw[Val.pv_mk]
    exact .refl _
   ·rw[if_neg hz] at h17
    refine⟨eH,eC,_,_,h17,fw,jc,.inl rfl,fun h=>absurd h hz,fun v' h=>absurd ?_ hz⟩
    have hc:=h.cel
    rw[hvv v' h] at hc
    rw[sN _ 0 hc]
  ·have h17:=vN (T:=T) (p:=p) t ht w line he hb h64 hs0.1 hll (by omega)
   exact⟨eH,eC,_,_,h17,fw,jc,.inl rfl,fun h=>absurd h (sK (by omega)),fun v' h=>absurd (hvv v' h▸h.sum) hne⟩
 ·exact⟨eH,eC,0,kC t w,vP t ht w line he,fw,jc,.inl rfl,fun h=>absurd h he,fun v' h=>absurd h.rep he⟩
theorem Pq (t:Typ)(ht:t.ok)(w:List Int)(v:Val)(hv:v.ok):∃ (s:List UInt8) (e:Int),ag Tryz.prog au 14 [t.pv,.list (bz w),v.pv] (.tup [.str s,.int .i64 e])/\(e=0->kC t w=0/\A2 t v=true/\∃ T:TFd->List UInt8,(∀ g∈t.fields,FTb v g (T g))/\F9 T t.fields w/\(mS T t.fields w []).2=0/\s=(mS T t.fields w []).1):=by
 by_cases he:kC t w=0
 ·cases hfit:A2 t v with
  | false=>exact⟨[],18,wz t ht w v hv he hfit,fun h=>absurd h (by decide)⟩
  | true=>
    obtain⟨hfe,hlen,hrl⟩:=eP he
    obtain⟨h0,hfl⟩:=j1 hfe
    obtain⟨T,hT,hTl⟩:=xF h0 ht hfl hfit
    have hTl:=Mn (fV t.fields w 0 hlen.symm hrl) hTl
    exact⟨_,_,wA t ht w v hv he hfit T (fun g hg=>QI (hT g hg)) hTl,fun h=>⟨he,rfl,T,hT,hTl,h,rfl⟩⟩
 ·exact⟨[],kC t w,wB t ht w v he,fun h=>absurd h he⟩
def O0 (f:Nat)(ps:List PV):Option PV:=
 match f with
 | 17=>match ps with
   | [a,b,c]=>if eqP 8 a Oe=true/\eqP 8 b Le=true/\eqP 8 c Ji=true then some (.tup [MF,.int .i64 0,.int .i64 0]) else none
   | _=>none
 | f=>O3 f ps
theorem IP:∀ f ps r,O0 f ps=some r->ag Tryz.prog au f ps r:=by
 intro f ps r h
 unfold O0 at h
 split at h
 ·split at h
  ·split at h
   ·rename_i hh
    cases h
    rw[oE _ _ _ hh.1,oE _ _ _ hh.2.1,oE _ _ _ hh.2.2]
    exact Fu
   ·cases h
  ·cases h
 ·exact gL _ _ _ h
theorem Ra:za (exF (Gr.map gFn) O0 au 5000 60) 11 []=some (.bool true):=by kernel_rfl
theorem Jn:ag Tryz.prog au 11 [] (.bool true):=ag.of_ex (kU kV) IP Ra
attribute [local irreducible] vc
theorem vg (w:List Int)(n:Nat):(bz w).take n=bz (w.take n):=by simp[bz]
theorem PD (w:List Int):ag Tryz.prog au 10 [.list (bz w)] (.list (bz (w.take 70))):=by
 refine ag.intro Q10.2 (by simp[Q10]) ?_
 rw[<- vg]
 by_cases h:w.length<=70
 ·have hm:min (w.length:Int) 70=(w.length:Int):=by omega
  have e:(bz w).take 70=(bz w).take w.length:=by rw[List.take_of_length_le (by rw[bj];omega),List.take_of_length_le (by rw[bj];omega)]
  rw[e]
  simp(disch:=try exact dI) only[Q10,hm,bj,push_cast,seval]
 ·have hm:min (w.length:Int) 70=70:=by omega
  have hl:(70:Int)<=(w.length:Int):=by omega
  simp(disch:=try exact dI) only[Q10,hm,bj,push_cast,seval]
theorem Q3 {T:Nat}{p:PV}(t:Typ)(ht:t.ok)(w0:List Int)(v:Val)(hv:v.ok):ag Tryz.prog (dW T p) 6 [t.pv,.list (bz w0),v.pv] (.bool true):=by
 have hk:=toE (T:=T) (p:=p) Jn
 have hc:=toE (T:=T) (p:=p) (PD w0)
 obtain⟨s,e,h14,hz⟩:=Pq t ht (w0.take 70) v hv
 replace h14:=toE (T:=T) (p:=p) h14
 by_cases he:e=0
 ·subst he
  obtain⟨hr,hf,Tx,hT,hTl,h0,hs⟩:=hz rfl
  obtain⟨vn,hD,hV,hl⟩:=Ak ht hr hf hT hTl h0
  rw[<- hs] at hD hV hl
  obtain⟨P,V,n,e,h17,hnz,hVo,hP,hok,hgd⟩:=Pz (T:=T) (p:=p) t ht (w0.take 70) s hl
  obtain⟨g1,g2⟩:=hgd vn hD
  rw[hV] at g2
  subst g1 g2
  obtain⟨rfl,⟨L,rfl⟩,_⟩:=hok rfl
  have h19:=(toE (T:=T) (p:=p) (JR V hVo)).nz (.cons _ _ _ _ (.refl _) (.cons _ _ _ _ hnz .nil))
  clear hok hnz hVo hgd hP hD hV hT hTl h0 hs hf hr
  generalize w0.take 70=w at *
  generalize bz w0=L0 at *
  generalize bz w=L1 at *
  obtain⟨k,m,M,sc,wd,el,f⟩:=t
  obtain⟨vk,vi,vs,vt,vl,vf⟩:=V
  simp only[Typ.pv_mk,Val.pv_mk,DH] at h14 h17 h19 ⊢
  refine ag.intro Q6.2 (by simp[Q6]) ?_
  simp(maxSteps:=9^7) (disch:=try exact dI) only[Q6,Typ.pv_mk,push_cast,seval]
  refine ab.pure hc rfl ?_
  simp(maxSteps:=9^7) (disch:=try exact dI) only[push_cast,seval]
  refine ab.pure h14 rfl ?_
  simp(maxSteps:=9^7) (disch:=try exact dI) only[push_cast,seval]
  refine ab.pure hk rfl ?_
  simp(maxSteps:=9^7) (disch:=try exact dI) only[push_cast,seval]
  refine ab.pure h17 rfl ?_
  simp(maxSteps:=9^7) (disch:=try exact dI) only[push_cast,seval]
  refine ab.pure h19 rfl ?_
  simp(maxSteps:=9^7) (disch:=try exact dI) only[push_cast,seval]
 ·clear hz
  generalize w0.take 70=w at *
  generalize bz w0=L0 at *
  generalize bz w=L1 at *
  obtain⟨k,m,M,sc,wd,el,f⟩:=t
  obtain⟨vk,vi,vs,vt,vl,vf⟩:=v
  simp only[Typ.pv_mk,Val.pv_mk] at h14 ⊢
  refine ag.intro Q6.2 (by simp[Q6]) ?_
  simp(maxSteps:=9^7) (disch:=try exact dI) only[Q6,Typ.pv_mk,push_cast,seval]
  refine ab.pure hc rfl ?_
  simp(maxSteps:=9^7) (disch:=try exact dI) only[push_cast,seval]
  refine ab.pure h14 rfl ?_
  simp(maxSteps:=9^7) (disch:=try exact dI) only[push_cast,seval]
  refine ab.pure hk rfl ?_
  simp(maxSteps:=9^7) (disch:=try exact dI) only[he,push_cast,seval]
  refine ab.pure hk rfl ?_
  simp(maxSteps:=9^7) (disch:=try exact dI) only[push_cast,seval]
theorem tS (q:PV)(p0 p1 p2:PV)(h0:HasT Tryz.prog 26 p0)(h1:HasT Tryz.prog 27 p1)(h2:HasT Tryz.prog 36 p2):ag Tryz.prog (dW 297 q) 6 [p0,p1,p2] (.bool true):=by
 obtain⟨t,rfl,ht⟩:=E2 h0
 obtain⟨w,rfl,_,_⟩:=mD (f:=PV.int .i64) (Q:=I64) h1 Tryz.underlying27 PN (fun x hx=>bV hx Tryz.underlying3)
 obtain⟨v,rfl,hv⟩:=sB h2
 exact Q3 t ht w v hv
open Go.Lib Go.Proofs
theorem u8X:U8Extra Tryz.prog Tryz.lays196_ren:=⟨by kernel_rfl,by kernel_rfl,by kernel_rfl,by kernel_rfl,by kernel_rfl,by kernel_rfl,by kernel_rfl⟩
theorem E7 {W:World}(h1:VarReads Tryz.prog W "unicode/utf8.first" firstData) (h2:VarReads Tryz.prog W "unicode/utf8.acceptRanges" acceptData)
  (h3:VarReads Tryz.prog W "internal/strconv.uint64pow10" (tabData .u64 pow10Tab)):bP au W (mF W):=by
 have hu:=utf8Tabs_of_readsT (U8Types.of196 Tryz.lays196) u8X h1 h2
 refine AL fun g hg=>?_
 unfold au at hg ⊢
 by_cases e3:g=3
 ·subst e3
  exact tE (t:=277) (e:=169) (m:=20) h3 (by kernel_rfl) (by kernel_rfl) (by kernel_rfl) (by kernel_rfl) (by kernel_rfl) (by kernel_rfl) (by kernel_rfl)
 rw[if_neg e3] at hg ⊢
 by_cases e1:g=1
 ·subst e1
  rw[if_pos rfl] at hg ⊢
  refine l7 (t:=245) (e:=5) (m:=256) h1 (by kernel_rfl) (by kernel_rfl) (by kernel_rfl) (by kernel_rfl) fun o p hp=>?_
  rw[N5,List.getElem?_map,Option.map_eq_some_iff] at hp
  obtain⟨c,hc,rfl⟩:=hp
  obtain⟨hlt,hcc⟩:=List.getElem?_eq_some_iff.1 hc
  simp at hlt hcc
  subst hcc
  exact⟨_,_,rfl,hu.1 o hlt⟩
 rw[if_neg e1] at hg ⊢
 by_cases e2:g=2
 ·subst e2
  rw[if_pos rfl] at hg ⊢
  refine l7 (t:=248) (e:=247) (m:=16) h2 (by kernel_rfl) (by kernel_rfl) (by kernel_rfl) (by kernel_rfl) fun o p hp=>?_
  rw[KF,List.getElem?_map,Option.map_eq_some_iff] at hp
  obtain⟨c,hc,rfl⟩:=hp
  obtain⟨hlt,hcc⟩:=List.getElem?_eq_some_iff.1 hc
  simp at hlt hcc
  subst hcc
  have:=hu.2 (o / 2) (by omega)
  by_cases ho:o % 2=0
  ·rw[if_pos ho]
   refine⟨_,_,rfl,?_⟩
   have:=this.1
   rwa [show 2*(o / 2)=o by omega] at this
  ·rw[if_neg ho]
   refine⟨_,_,rfl,?_⟩
   have:=this.2
   rwa [show 2*(o / 2)+1=o by omega] at this
 rw[if_neg e2] at hg
 exact absurd rfl hg
open Go.RowKit Go.ChangeShapes
theorem Lq : "*" ++ "errors.errorString" = "*errors.errorString":=by decide
theorem LL (u:TypeId)(h:Tryz.prog.typeName? 3 u=some "*errors.errorString"):u=297:=
 typeName_ptr_named (nm:= "errors.errorString") (by rw[Lq];kernel_rfl) (by kernel_rfl) (by decide) u (by rw[Lq];exact h)
theorem MK {text:List UInt8}{r:List (String×DataW Unit)}{W:World}(h:laidMet Tryz.prog (("strconv.ErrSyntax",.iface "*errors.errorString" (.ptr (.agg [.lit (.string text)])))::r) W) :
  ∃ (a:Addr) (s:ByteArray),W.var? Tryz.prog "strconv.ErrSyntax" = some #[.iface 297 (.pointer (some a))]/\W.cell? a=some (.string s)/\s.data.toList=text/\s.size<=maxLen:=
 laid_sentinel h (g:=4) (ti:=84) (te:=299) (ts:=9) (by kernel_rfl) (by kernel_rfl) Tryz.underlying84 LL Tryz.underlying297 Tryz.underlying299 rfl rfl Tryz.underlying9 (by kernel_rfl) (by kernel_rfl)
theorem AK {W:World}(h1:VarReads Tryz.prog W "unicode/utf8.first" firstData) (h2:VarReads Tryz.prog W "unicode/utf8.acceptRanges" acceptData)
  (h3:VarReads Tryz.prog W "internal/strconv.uint64pow10" (tabData .u64 pow10Tab))
  (hE:∃ (a:Addr) (s:ByteArray),W.var? Tryz.prog "strconv.ErrSyntax" = some #[.iface 297 (.pointer (some a))]/\W.cell? a=some (.string s)):∃ p,bP (dW 297 p) W (mF W):=by
 obtain⟨⟨b,o,sp⟩,s,hv,hc⟩:=hE
 have hsp:sp=none:=by
  unfold World.cell? at hc
  cases sp with
  | none=>rfl
  | some k=>split at hc<;>simp at hc
 subst hsp
 have hg:Tryz.prog.globalNamed "strconv.ErrSyntax" = some 4:=by kernel_rfl
 have hcell:W.cell? ⟨4,0,none⟩=some (.iface 297 (.pointer (some ⟨b,o,none⟩))):=by
  have:=World.var?_cell hg hv 0
  simpa using this
 have hG:=E7 h1 h2 h3
 refine⟨.gptr b o,fun g o' p hp=>?_,fun g hg'=>?_⟩
 ·unfold dW at hp
  by_cases e0:g=4
  ·subst e0
   rw[if_pos rfl] at hp
   cases o' with
   | zero=>cases hp;exact⟨World.block_lt_of_cell? W _ hcell,_,hcell,rfl,.iface _ _ _ (.gptr _ _)⟩
   | succ o'=>simp at hp
  ·rw[if_neg e0] at hp
   exact hG.1 g o' p hp
 ·unfold dW at hg' ⊢
  by_cases e0:g=4
  ·subst e0
   rw[if_pos rfl]
   unfold World.var? at hv
   rw[hg] at hv
   simp only[Option.bind_some] at hv
   split at hv
   ·rename_i cs T fz hh
    cases hv
    exact⟨_,T,fz,hh,rfl⟩
   ·cases hv
  ·rw[if_neg e0] at hg' ⊢
   exact hG.2 g hg'
end Go.Proofs.YtbojpfpliibfbaaGreatDoor
namespace Go.Proofs.YtbojpfpliibfbaaGreatDoor.fixedwidthReturnsDone
open Go Go.Ab Go.RowKit Go.ChangeShapes Go.WideShapes Go.ChangeAt
theorem own:ownKnob Tryz.prog.godebug=none:=by kernel_rfl
theorem Jm:laidOutB Tryz.prog=true:=by kernel_rfl
theorem Pj {W:World}(h:laidMetH Tryz.prog Rows.fixedwidthReturnsRow.laid W):∃ p,bP (dW 297 p) W (mF W):=by
 have h':laidMet Tryz.prog Rows.fixedwidthReturnsRow.laid W:=h
 obtain⟨a,s,e1,e2,_⟩:=MK (((((h'.tail).tail).tail).tail).tail)
 exact AK (Go.Lib.laidMet.reads h' (n:= "unicode/utf8.first") (d:=Go.Lib.firstData) (by rw[show Go.Lib.firstData=(Rows.laid_unicode_utf8_first:DataW Unit) by kernel_rfl];exact List.Mem.tail _ (List.Mem.tail _ (List.Mem.tail _ (List.Mem.tail _ (List.Mem.tail _ (List.Mem.tail _ (List.Mem.head _))))))))
  (Go.Lib.laidMet.reads h' (n:= "unicode/utf8.acceptRanges") (d:=Go.Lib.acceptData) (by rw[show Go.Lib.acceptData=(Rows.laid_unicode_utf8_acceptRanges:DataW Unit) by kernel_rfl];exact List.Mem.tail _ (List.Mem.tail _ (List.Mem.tail _ (List.Mem.head _)))))
  (Go.Lib.laidMet.reads h' (n:= "internal/strconv.uint64pow10") (d:=(Go.Lib.tabData .u64 Go.Lib.pow10Tab)) (by rw[show (Go.Lib.tabData .u64 Go.Lib.pow10Tab)=(Rows.laid_internal_strconv_uint64pow10:DataW Unit) by kernel_rfl];exact List.Mem.tail _ (List.Mem.tail _ (List.Mem.head _))))
  ⟨a,s,e1,e2⟩
theorem Pi:Tryz.f6.params = #[26,27,36]:=by kernel_rfl
theorem i7 (H:Type)(enc:TypeId×Value->H)(W:World)(base:Nat)(args:Array Value)(ds gs:List (DataW H))(before:List MemPlace)
  (hval:∀ (j:Nat) t v,Tryz.f6.params[j]? = some t->args[j]? = some v->Value.okWide Tryz.prog W .any base t v)
  (hW:DataW.Whole enc Tryz.prog Tryz.f6.params.toList Rows.fixedwidthReturnsSpec.vars false W args.toList ds gs before) (hsz:(DataW.weightsEach Tryz.prog (Tryz.f6.params.toList++Rows.fixedwidthReturnsSpec.plain.varTypes Tryz.prog) (ds++gs)).all (·<=reachBytes)=true) (hL:laidMetH Tryz.prog Rows.fixedwidthReturnsRow.laid W) :
  Calls Tryz.prog 6 args W fun e W'=>∃ v,e = .returned v/\Rows.fixedwidthReturnsSpec.post enc Tryz.prog Tryz.f6 false true false false W args v W':=by
 obtain⟨p,hp0⟩:=Pj hL
 refine EM (ts:=[26,3,22,9,23,24,54,33,36,34,60,27,4]) (tb:=4) (G:=dW 297 p) rfl Jm (by decide +kernel) (by kernel_rfl) (by decide +kernel) (by kernel_rfl) (by kernel_rfl) ?_ hval hW hsz hp0 ?_
 ·intro ds hd
  rw[Pi] at hd
  match ds,hd with
  | [d0,d1,d2],_=>rfl
 ·intro ps hp hT
  rw[Pi] at hp hT
  match ps,hp with
  | [p0,p1,p2],_=>
    exact tS p p0 p1 p2 (hT 0 26 p0 rfl rfl) (hT 1 27 p1 rfl rfl) (hT 2 36 p2 rfl rfl)
def uZ:DataW Unit->List Value
 | .lit (.int k n)=>[Value.int k n]
 | .agg xs=>xs.map fun x=>match x with
   | .lit (.int k n)=>Value.int k n
   | _=>Go.undef
 | _=>[]
def An:DataW Unit->Array Value
 | .agg xs=>(xs.flatMap uZ).toArray
 | _=>#[]
def nE (d:DataW Unit):Obj->Obj
 | .cells _ t frozen=>.cells (An d) t frozen
 | o=>o
def GT (d:DataW Unit):Obj:=
 match d with
 | .iface _ (.ptr (.agg [.lit (.string bs)]))=>.cells #[.string ⟨bs.toArray⟩] 299
 | _=>.cells #[] 299
def Gl (k:Nat):Obj->Obj
 | .cells _ t frozen=>.cells #[.iface 297 (.pointer (some ⟨k,0,none⟩))] t frozen
 | o=>o
noncomputable def dL (os:Os):World:=
 { World.holding Tryz.prog os ⟨#[],#[],[]⟩ with heap:=((((((((((World.holding Tryz.prog os ⟨#[],#[],[]⟩).heap.push (GT Rows.laid_strconv_ErrRange)).push (GT Rows.laid_strconv_ErrSyntax)).modify 6 (nE Rows.laid_math_bits_deBruijn32tab)).modify 7 (nE Rows.laid_math_bits_deBruijn64tab)).modify 3 (nE Rows.laid_internal_strconv_uint64pow10)).modify 2 (nE Rows.laid_unicode_utf8_acceptRanges)).modify 5 (Gl ((World.holding Tryz.prog os ⟨#[],#[],[]⟩).heap.size+0))).modify 4 (Gl ((World.holding Tryz.prog os ⟨#[],#[],[]⟩).heap.size+1))).modify 1 (nE Rows.laid_unicode_utf8_first)) }
theorem EN (os:Os):laidMet Tryz.prog Rows.fixedwidthReturnsRow.laid ((dL os).forCall (fun _ _=>0) ⟨#[],#[.agg #[.int .i64 0,.int .i64 0,.int .i64 0,.int .i64 0,.slice none 0 0,.slice none 0 0,.slice none 0 0],.slice none 0 0,.agg #[.int .i64 0,.int .i64 0,.int .i64 0,.string ⟨#[]⟩,.slice none 0 0,.slice none 0 0]],[]⟩).memory:=
 laidMet_of_run' 8 (by kernel_rfl) (by kernel_rfl)
theorem reads (os:Os){H:Type}(enc:TypeId×Value->H):∃ places,DataW.whole enc Tryz.prog ((dL os).forCall (fun _ _=>0) ⟨#[],#[.agg #[.int .i64 0,.int .i64 0,.int .i64 0,.int .i64 0,.slice none 0 0,.slice none 0 0,.slice none 0 0],.slice none 0 0,.agg #[.int .i64 0,.int .i64 0,.int .i64 0,.string ⟨#[]⟩,.slice none 0 0,.slice none 0 0]],[]⟩).memory Tryz.f6.params.toList Rows.fixedwidthReturnsSpec.vars false (#[.agg #[.int .i64 0,.int .i64 0,.int .i64 0,.int .i64 0,.slice none 0 0,.slice none 0 0,.slice none 0 0],.slice none 0 0,.agg #[.int .i64 0,.int .i64 0,.int .i64 0,.string ⟨#[]⟩,.slice none 0 0,.slice none 0 0]]:Array Value).toList 8=some ([.agg [.lit (.int .i64 0),.lit (.int .i64 0),.lit (.int .i64 0),.lit (.int .i64 0),.nil,.nil,.nil],.nil,.agg [.lit (.int .i64 0),.lit (.int .i64 0),.lit (.int .i64 0),.lit (.string []),.nil,.nil]],[],places):=
 ⟨[],by kernel_rfl⟩
theorem OE:Tryz.checked.prog.inits.idxOf? 6=none:=by kernel_rfl
theorem OC (os:Os):World.variablesB Tryz.checked.prog ((dL os).forCall (fun _ _=>0) ⟨#[],#[.agg #[.int .i64 0,.int .i64 0,.int .i64 0,.int .i64 0,.slice none 0 0,.slice none 0 0,.slice none 0 0],.slice none 0 0,.agg #[.int .i64 0,.int .i64 0,.int .i64 0,.string ⟨#[]⟩,.slice none 0 0,.slice none 0 0]],[]⟩)=true:=by kernel_rfl
theorem OD (os:Os):List.take ((begin Tryz.checked.prog (fun _ _=>0) default).world.heap.size - Tryz.checked.prog.globals.size) (List.drop Tryz.checked.prog.globals.size ((dL os).forCall (fun _ _=>0) ⟨#[],#[.agg #[.int .i64 0,.int .i64 0,.int .i64 0,.int .i64 0,.slice none 0 0,.slice none 0 0,.slice none 0 0],.slice none 0 0,.agg #[.int .i64 0,.int .i64 0,.int .i64 0,.string ⟨#[]⟩,.slice none 0 0,.slice none 0 0]],[]⟩).heap.toList)=List.drop Tryz.checked.prog.globals.size (begin Tryz.checked.prog (fun _ _=>0) default).world.heap.toList:=by kernel_rfl
theorem OB (os:Os):Input.okWideB Tryz.checked.prog ((dL os).forCall (fun _ _=>0) ⟨#[],#[.agg #[.int .i64 0,.int .i64 0,.int .i64 0,.int .i64 0,.slice none 0 0,.slice none 0 0,.slice none 0 0],.slice none 0 0,.agg #[.int .i64 0,.int .i64 0,.int .i64 0,.string ⟨#[]⟩,.slice none 0 0,.slice none 0 0]],[]⟩) 6 ⟨#[],#[.agg #[.int .i64 0,.int .i64 0,.int .i64 0,.int .i64 0,.slice none 0 0,.slice none 0 0,.slice none 0 0],.slice none 0 0,.agg #[.int .i64 0,.int .i64 0,.int .i64 0,.string ⟨#[]⟩,.slice none 0 0,.slice none 0 0]],[]⟩=true:=by kernel_rfl
theorem Mm (os:Os)(started:os.Started)(H:Type)(enc:TypeId×Value->H)(F:Stop.Interp) :
  ReturnsInHanded {} Tryz.checked os 6 .any ((OpenSpec.ofChange Rows.fixedwidthReturnsSpec).preRow enc Tryz.prog Tryz.f6 Rows.fixedwidthReturnsRow.domain false Rows.fixedwidthReturnsRow.laid) (((OpenSpec.ofChange Rows.fixedwidthReturnsSpec).at F).post enc Tryz.prog Tryz.f6 false true false false):=by
 obtain⟨places,hx⟩:=reads os enc
 refine returnsInHanded_of_row (C:=Tryz.checked) (s:=OpenSpec.ofChange Rows.fixedwidthReturnsSpec) own started OE Tryz.func6
  (witness_row_at (enc:=enc) (C:=Tryz.checked) false (dL os) #[.agg #[.int .i64 0,.int .i64 0,.int .i64 0,.int .i64 0,.slice none 0 0,.slice none 0 0,.slice none 0 0],.slice none 0 0,.agg #[.int .i64 0,.int .i64 0,.int .i64 0,.string ⟨#[]⟩,.slice none 0 0,.slice none 0 0]] rfl (OC os) (OD os) (OB os)
   (OpenSpec.preRow_of_cond 8 hx (by kernel_rfl) (fun k hk=>by cases hk) (by kernel_rfl) (EN os))) ?_
 intro W base args ds gs before hval hW _ _ hsz hL _ _
 exact i7 H enc W base args ds gs before hval hW hsz hL
theorem Pm:joinedFacts Tryz.pinned.checked.prog 6 Tryz.f6 (OpenSpec.ofChange Rows.fixedwidthReturnsSpec).bare Rows.fixedwidthReturnsRow=true:=by
 unfold joinedFacts
 repeat' (with_reducible refine Bool.and_eq_true_iff.2 ⟨?_,?_⟩)
 all_goals as_aux_lemma=>kernel_rfl
end Go.Proofs.YtbojpfpliibfbaaGreatDoor.fixedwidthReturnsDone
