/- A part of the proof. -/
import Derived.Test.YtbaaokocnegdoaaGreatDoorAgVZc
import Derived.Shelf.Vars
import Derived.Stop.LaidErr
set_option linter.unusedVariables false
set_option linter.unusedSimpArgs false
set_option maxHeartbeats 16000000
set_option maxRecDepth 100000
namespace Go.Proofs.YtbaaokocnegdoaaGreatDoor
open Go Go.Ab
theorem Qb {m:Int}{T:Nat}{p:PV}{t:Typ}(ht:TOk t)(n:Int)(line:List UInt8)(hcl:∀ C Pl,dJ line n = .ok C Pl->∀ c∈C,c.1.length<=5000):∃ (P:PV) (V:Val) (o e:Int),
  ae Tryz.prog (jc m T p) 22 [t.pv,.int .i64 n,.str line] (.tup [P,.int .i64 o,.int .i64 e])/\dep 3 V/\(P=mc\/P=V.pv) /\
  (e=0->o=0/\P=V.pv/\∃ C,DOk t n line C/\V=me ((t.fields.zip C).map fDV)) /\
  (wW t n=0->∀ C Pl,dJ line n = .ok C Pl->t.fields.length=C.length->(∀ x∈t.fields.zip C,ni x.1 x.2=0)->e=0):=by
 have h17:=JY t n ht.tid ht.nar (Bb ht)
 have zd:dep 3 aJ:=oL 2
 by_cases hz:wW t n=0
 case neg=>exact⟨mc,aJ,0,wW t n,zw t n _ line h17 hz,zd,.inl rfl,fun h=>absurd h hz,fun h=>absurd h hz⟩
 rw[hz] at h17
 obtain⟨hR,hsep⟩:=uE hz ht.ok ht.nar ht.ty
 have h57:=Lj line n
 cases hs:dJ line n with
 | err o e=>
   rw[hs] at h57
   simp only[resV] at h57
   have hne:=(nE line n).1 o e hs
   exact⟨mc,aJ,o,e,zr t n line o e h17 h57 hne,zd,.inl rfl,fun h=>absurd h hne,fun _ C Pl h=>by cases h⟩
 | ok C Pl=>
   rw[hs] at h57
   simp only[resV] at h57
   obtain⟨hcp,hC0,hCt⟩:=(nE line n).2 C Pl hs
   have hc5:=hcl C Pl hs
   by_cases hlen:C.length=t.fields.length
   case neg=>
    have hne:¬ (if C.length<t.fields.length then (4:Int) else 21)=0:=by split<;>decide
    exact⟨mc,aJ,_,_,zu t n line C Pl hcp h17 h57 hlen,zd,.inl rfl,fun h=>absurd h hne,fun _ C' Pl' h hh=>by cases h;exact absurd hh.symm hlen⟩
   have hfl6:=hR.len
   have h12:∀ g∈t.fields,∀ c∈C,ae Tryz.prog (oF T p) 12 [g.typ.pv,.str c.1] (.tup [(j9 g.typ c.1).1.pv,.int .i64 (j9 g.typ c.1).2]):=fun g hg c hc=>A1 g.typ c.1 (hc5 c hc) (hR.fld g hg).ty
   have hdf:∀ g∈t.fields,g.need=3->∃ x r,g.dflt=x::r/\bz x=false:=fun g hg h3=>by
    obtain⟨x,r,hx,hx1,_⟩:=(hR.fld g hg).dft h3
    have hkd:=(hR.fld g hg).kd
    have:=hx1.kd
    exact⟨x,r,hx,kR (by omega)⟩
   have hnd:fk ((t.fields.zip C).map fDV):=by
    unfold fk
    rw[mr hlen.symm]
    exact hR.nm
   have hok:∀ x∈t.fields.zip C,ni x.1 x.2=0->(fDV x).ok:=fun x hx h=>by
    obtain⟨g,c⟩:=x
    obtain⟨m1,m2⟩:=List.of_mem_zip hx
    unfold fDV
    rw[Fld.ok_mk]
    have:=(hR.fld g m1).nml
    exact⟨by show g.name.length<=_;omega,(oq (hR.fld g m1) (hc5 c m2) h).1⟩
   have hall:=ot t.fields C Pl hlen.symm hcp
   obtain⟨V,hV⟩:∃ V,V=if (ip t.fields C Pl).2=0 then me ((t.fields.zip C).map fDV) else aJ:=⟨_,rfl⟩
   have hVd:dep 3 V/\V.ok:=by
    rw[hV]
    by_cases h0:(ip t.fields C Pl).2=0
    ·rw[if_pos h0]
     obtain⟨r1,r2,_⟩:=BR (by omega) hR.fld ht.dfl hc5 (hall h0).2
     exact⟨r1,r2⟩
    ·rw[if_neg h0];exact⟨zd,FJ⟩
   have hrec:ip t.fields C Pl=(0,0)->ae Tryz.prog au 59 [.list ((t.fields.zip C).map fDP)] V.pv:=fun h=>by
    have h0:(ip t.fields C Pl).2=0:=by rw[h]
    rw[hV,if_pos h0]
    have hz2:=(hall h0).2
    have h55:=GL ((t.fields.zip C).map fDV) (by rw[List.length_map,List.length_zip];omega) (fun y hy=>by
     obtain⟨x,hx,rfl⟩:=List.mem_map.1 hy
     exact hok x hx (hz2 x hx)) hnd
    exact h55.nz (.cons _ _ _ _ (.list _ _ (Dc _)) .nil)
   have h58:=g7 _ V (Nat.lt_succ_self _) hVd.2
   have h22:ae Tryz.prog (jc m T p) 22 [t.pv,.int .i64 n,.str line] (.tup [if (ip t.fields C Pl).2=0 then V.pv else mc,.int .i64 (ip t.fields C Pl).1,.int .i64 (ip t.fields C Pl).2]):=by
    obtain⟨k,a,b,e0,w,el,f⟩:=t
    exact zx k a b e0 w el f line n C Pl V h17 h57 hlen.symm hcp (by simp only[Typ.fields] at hfl6;omega) h12 (fun g hg h3=>by obtain⟨x,r,hx,_⟩:=hdf g hg h3;exact⟨x,r,hx⟩) hrec h58
   refine⟨_,V,_,_,h22,hVd.1,?_,fun h=>⟨?_,if_pos h,C,⟨hz,⟨Pl,hs⟩,hlen.symm,hCt,(hall h).2⟩,by rw[hV,if_pos h]⟩,fun _ C' Pl' h _ hx=>?_⟩
   ·by_cases h0:(ip t.fields C Pl).2=0
    ·rw[if_pos h0];exact .inr rfl
    ·rw[if_neg h0];exact .inl rfl
   ·rw[(hall h).1]
   ·cases h
    rw[Ey _ _ _ hx]
theorem QS {m:Int}{T:Nat}{p:PV}{t:Typ}{v:Val}(ht:TOk t){n:Int}{s:List UInt8}(hr:wW t n=0)(hm:aK 3 t v []=[]){Tx:TFd->List UInt8}(hT:∀ g∈t.fields,FTd v g (Tx g))(hs:dJ s n = .ok (t.fields.map (iq Tx n.toNat.toUInt8 v)) (Mc (t.fields.map (iq Tx n.toNat.toUInt8 v)) 0)) :
  ae Tryz.prog (jc m T p) 22 [t.pv,.int .i64 n,.str s] (.tup [v.pv,.int .i64 0,.int .i64 0]):=by
 obtain⟨hR,_⟩:=uE hr ht.ok ht.nar ht.ty
 obtain⟨b1,b2,_⟩:=qn (n:=2) (sep:=n.toNat.toUInt8) hR hm hT
 obtain⟨P,V,o,e,h22,_,_,hd,hz⟩:=Qb (m:=m) (T:=T) (p:=p) ht n s (fun C Pl h c hc=>by
  rw[hs] at h;cases h
  obtain⟨g,hg,rfl⟩:=List.mem_map.1 hc
  exact ox (hT g hg))
 have he:=hz hr _ _ hs (by rw[List.length_map]) b1
 obtain⟨ho,hP,C,hD,hV⟩:=hd he
 obtain⟨Pl,hC⟩:=hD.spl
 rw[hs] at hC
 cases hC
 rw[b2] at hV
 rw[he,ho,hP,hV] at h22
 exact h22
theorem SB {m:Int}{T:Nat}{p:PV}{t:Typ}{v:Val}(ht:TOk t)(hv:VOk v)(n:Int):∃ (s:List UInt8) (e:Int),ae Tryz.prog (jc m T p) 20 [t.pv,.int .i64 n,v.pv] (.tup [.str s,.int .i64 e]) /\
  (e=0->wW t n=0/\aK 3 t v []=[]/\∃ Tx:TFd->List UInt8,(∀ g∈t.fields,FTd v g (Tx g))/\dJ s n = .ok (t.fields.map (iq Tx n.toNat.toUInt8 v)) (Mc (t.fields.map (iq Tx n.toNat.toUInt8 v)) 0)/\s.length<=65536)/\(wW t n=0->aK 3 t v []=[]->e=0):=by
 have h17:=JY t n ht.tid ht.nar (Bb ht)
 by_cases hz:wW t n=0
 ·rw[hz] at h17
  obtain⟨hR,hsep⟩:=uE hz ht.ok ht.nar ht.ty
  have h37:=Su ht hR hv
  cases hm:aK 3 t v [] with
  | nil=>
    rw[hm] at h37
    rw[Bx] at hsep
    obtain⟨Tx,hT⟩:=Ga (n:=1) hR hm hv.fld
    obtain⟨s,hj,hs1,hs2⟩:=DA (n:=2) hsep hR hm hT
    have h9:v.kind=9:=by
     by_cases a:t.kind<1\/10<t.kind\/¬ v.kind=t.kind
     ·rw[aV,bA a] at hm;cases hm
     ·have:=hR.k9;omega
    have hvl:v.fields.length<=1000000:=by have:=hv.dep.2.1;omega
    have e20:=y8 (m:=m) (T:=T) (p:=p) t hR v hv.ok h9 n hsep h17 h37 hvl Tx hT
    rw[hj] at e20
    exact⟨s,0,e20,fun _=>⟨hz,rfl,Tx,hT,hs1,hs2⟩,fun _ _=>rfl⟩
  | cons x r=>
    rw[hm] at h37
    exact⟨[],18,yZ t v n h17 h37,fun h=>absurd h (by decide),fun _ h=>by cases h⟩
 ·exact⟨[],wW t n,y9 t v n _ h17 hz,fun h=>absurd h hz,fun h=>absurd h hz⟩
attribute [local irreducible] vc
theorem OQ (V:Val){P Q:PV}(hd:dep 3 V)(hP:Nz P V.pv)(hQ:Nz Q V.pv):ae Tryz.prog au 15 [P,Q] (.bool true):=(uz 3 V hd).nz (.cons _ _ _ _ hP (.cons _ _ _ _ hQ .nil))
theorem Sf {m:Int}{T:Nat}{p:PV}(t:Typ)(ht:t.ok)(s0:List UInt8)(hs0:s0.length<=140737488355328)(n:Int):ae Tryz.prog (jc m T p) 7 [t.pv,.str s0,.int .i64 n] (.bool true):=by
 have hk:=xG (m:=m) (T:=T) (p:=p) Ic
 have h11:=xG (m:=m) (T:=T) (p:=p) (Lm t ht)
 have hTk:=OG t ht
 have hm1:min (s0.length:Int) 300=((min s0.length 300:Nat):Int):=by omega
 have et:(min (s0.length:Int) 300).toNat=min s0.length 300:=by omega
 have hsl:(s0.take (min s0.length 300)).length<=300:=by rw[List.length_take];omega
 generalize hS:s0.take (min s0.length 300)=s at *
 generalize aZ 3 t=t' at *
 obtain⟨P,V,o,e,h22,hd,hP,hok,_⟩:=Qb (m:=m) (T:=T) (p:=p) hTk n s (fun C Pl h c hc=>by
  have:=((nE s n).2 C Pl h).2.2 c hc
  omega)
 have h15:=xG (m:=m) (T:=T) (p:=p) (OQ V hd (.refl _) (.refl _))
 have key:e=0->P=V.pv/\ae Tryz.prog (jc m T p) 24 [t'.pv,V.pv,.str []] (.list [])/\∃ x,ae Tryz.prog (jc m T p) 20 [t'.pv,.int .i64 n,V.pv] (.tup [.str x,.int .i64 0])/\ae Tryz.prog (jc m T p) 22 [t'.pv,.int .i64 n,.str x] (.tup [V.pv,.int .i64 0,.int .i64 0]):=fun h=>by
  obtain⟨_,hPV,C,hD,hV⟩:=hok h
  obtain⟨hR,_⟩:=uE hD.rep hTk.ok hTk.nar hTk.ty
  have hl5:∀ c∈C,c.1.length<=5000:=fun c hc=>by have:=hD.txt c hc;omega
  have qt:=No hR hl5 hD
  have hfl6:=hR.len
  have hVk:=(BR (by omega) hR.fld hTk.dfl hl5 hD.cel).2.2 fun c hc=>by have:=hD.txt c hc;omega
  rw[<- hV] at qt hVk
  have h24:=xG (m:=m) (T:=T) (p:=p) (QY hTk hR hVk)
  rw[qt,List.map_nil] at h24
  obtain⟨x,e',h20,hz,hz0⟩:=SB (m:=m) (T:=T) (p:=p) hTk hVk n
  have he':=hz0 hD.rep qt
  obtain⟨hr,hm,Tx,hTx,hs,_⟩:=hz he'
  rw[he'] at h20
  exact⟨hPV,h24,x,h20,QS hTk hr hm hTx hs⟩
 clear hok hTk ht hd
 obtain⟨k1,a1,b1,c1,w1,e1,f1⟩:=t
 obtain⟨k2,a2,b2,c2,w2,e2,f2⟩:=t'
 obtain⟨k4,a4,b4,c4,l4,f4⟩:=V
 simp only[Typ.pv_mk,Val.pv_mk] at h11 h22 h15 hP key ⊢
 refine ae.intro Q7.2 (by simp[Q7]) ?_
 simp(disch:=try exact dI) only[Q7,push_cast,seval]
 refine ag h11 rfl ?_
 simp(disch:=try exact dI) only[et,hS,push_cast,seval]
 refine ab.pure h22 rfl ?_
 by_cases he:e=0
 ·obtain⟨rfl,h24,x,h20,h22'⟩:=key he
  clear hP key
  simp(disch:=try exact dI) only[he,push_cast,seval]
  refine ab.pure hk rfl ?_
  simp(disch:=try exact dI) only[he,push_cast,seval]
  refine ab.pure h24 rfl ?_
  refine zgZ ?_
  refine ab.pure h20 rfl ?_
  refine zgZ ?_
  refine ab.pure h22' rfl ?_
  refine zgZ ?_
  refine ab.pure h15 rfl ?_
  exact qsZ
 ·clear key
  rcases hP with rfl | rfl
  all_goals
   try simp only[mc]
   simp(disch:=try exact dI) only[he,push_cast,seval]
   refine ab.pure hk rfl ?_
   simp(disch:=try exact dI) only[he,push_cast,seval]
   refine ab.pure hk rfl ?_
   exact qsZ
theorem Ff (m:Int)(q:PV)(p0 p1 p2:PV)(h0:HasT Tryz.prog 26 p0)(h1:HasT Tryz.prog 9 p1)(h2:HasT Tryz.prog 3 p2):ae Tryz.prog (jc m 276 q) 7 [p0,p1,p2] (.bool true):=by
 obtain⟨t,rfl,ht⟩:=Ir h0
 obtain⟨s,rfl,hs⟩:=ln h1 Tryz.underlying9
 obtain⟨n,rfl,_⟩:=dD h2 Tryz.underlying3
 exact Sf t ht s (by omega) n
open Go.Lib Go.Proofs
theorem u8X:U8Extra Tryz.prog Tryz.lays196_ren:=⟨by kernel_rfl,by kernel_rfl,by kernel_rfl,by kernel_rfl,by kernel_rfl,by kernel_rfl,by kernel_rfl⟩
theorem vw {W:World}(h1:VarReads Tryz.prog W "unicode/utf8.first" firstData) (h2:VarReads Tryz.prog W "unicode/utf8.acceptRanges" acceptData)
  (h3:VarReads Tryz.prog W "internal/strconv.uint64pow10" (tabData .u64 pow10Tab)):bt au W (ll W):=by
 have hu:=utf8Tabs_of_readsT (U8Types.of196 Tryz.lays196) u8X h1 h2
 refine DV fun g hg=>?_
 unfold au at hg ⊢
 by_cases e3:g=5
 ·subst e3
  exact wI (t:=281) (e:=213) (m:=20) h3 (by kernel_rfl) (by kernel_rfl) (by kernel_rfl) (by kernel_rfl) (by kernel_rfl) (by kernel_rfl) (by kernel_rfl)
 rw[if_neg e3] at hg ⊢
 by_cases e1:g=3
 ·subst e1
  rw[if_pos rfl] at hg ⊢
  refine nD (t:=270) (e:=5) (m:=256) h1 (by kernel_rfl) (by kernel_rfl) (by kernel_rfl) (by kernel_rfl) fun o p hp=>?_
  rw[Rs,List.getElem?_map,Option.map_eq_some_iff] at hp
  obtain⟨c,hc,rfl⟩:=hp
  obtain⟨hlt,hcc⟩:=List.getElem?_eq_some_iff.1 hc
  simp at hlt hcc
  subst hcc
  exact⟨_,_,rfl,hu.1 o hlt⟩
 rw[if_neg e1] at hg ⊢
 by_cases e2:g=4
 ·subst e2
  rw[if_pos rfl] at hg ⊢
  refine nD (t:=273) (e:=272) (m:=16) h2 (by kernel_rfl) (by kernel_rfl) (by kernel_rfl) (by kernel_rfl) fun o p hp=>?_
  rw[N7,List.getElem?_map,Option.map_eq_some_iff] at hp
  obtain⟨c,hc,rfl⟩:=hp
  obtain⟨hlt,hcc⟩:=List.getElem?_eq_some_iff.1 hc
  simp at hlt hcc
  subst hcc
  have:=hu.2 (o / 2) (by omega)
  by_cases ho:o % 2=0
  ·rw[if_pos ho]
   refine⟨_,_,rfl,?_⟩
   have:=this.1
   rwa [show 2*(o / 2)=o by omega] at this
  ·rw[if_neg ho]
   refine⟨_,_,rfl,?_⟩
   have:=this.2
   rwa [show 2*(o / 2)+1=o by omega] at this
 rw[if_neg e2] at hg
 exact absurd rfl hg
theorem DT {W:World}(hS:W.ShapedOpen Tryz.prog)(h1:VarReads Tryz.prog W "unicode/utf8.first" firstData) (h2:VarReads Tryz.prog W "unicode/utf8.acceptRanges" acceptData)
  (h3:VarReads Tryz.prog W "internal/strconv.uint64pow10" (tabData .u64 pow10Tab)):∃ m,bt (ma m) W (ll W):=by
 have h0:((begin Tryz.prog (fun _ _=>0) default).world.heap[0]?).bind Obj.row? = some (#[.int .i64 0],3):=by kernel_rfl
 have hg:0<Tryz.prog.globals.size:=of_decide_eq_true (by kernel_rfl)
 obtain⟨m,hm⟩:=cell_of_shapedOpen_int (P:=Tryz.prog) (g:=0) (t:=3) (zero:=#[.int .i64 0]) hS hg h0 rfl (by kernel_rfl) (by kernel_rfl) Tryz.underlying3
 obtain⟨cs,hh,hs,_⟩:=hS.1 0 #[.int .i64 0] 3 hg h0
 have hG:=vw h1 h2 h3
 refine⟨m,fun g o p hp=>?_,fun g hg=>?_⟩
 ·unfold ma at hp
  by_cases e0:g=0
  ·subst e0
   rw[if_pos rfl] at hp
   cases o with
   | zero=>cases hp;exact⟨World.block_lt_of_cell? W _ hm,_,hm,rfl,.int _ _⟩
   | succ o=>simp at hp
  ·rw[if_neg e0] at hp
   exact hG.1 g o p hp
 ·unfold ma at hg ⊢
  by_cases e0:g=0
  ·subst e0
   rw[if_pos rfl]
   exact⟨cs,3,_,hh,by rw[hs];rfl⟩
  ·rw[if_neg e0] at hg ⊢
   exact hG.2 g hg
open Go.RowKit Go.ChangeShapes
theorem OL : "*" ++ "errors.errorString" = "*errors.errorString":=by decide
theorem Pa (u:TypeId)(h:Tryz.prog.typeName? 3 u=some "*errors.errorString"):u=276:=
 typeName_ptr_named (nm:= "errors.errorString") (by rw[OL];kernel_rfl) (by kernel_rfl) (by decide) u (by rw[OL];exact h)
theorem P1 {text:List UInt8}{r:List (String×DataW Unit)}{W:World}(h:laidMet Tryz.prog (("strconv.ErrSyntax",.iface "*errors.errorString" (.ptr (.agg [.lit (.string text)])))::r) W) :
  ∃ (a:Addr) (s:ByteArray),W.var? Tryz.prog "strconv.ErrSyntax" = some #[.iface 276 (.pointer (some a))]/\W.cell? a=some (.string s)/\s.data.toList=text/\s.size<=maxLen:=
 laid_sentinel h (g:=1) (ti:=91) (te:=278) (ts:=9) (by kernel_rfl) (by kernel_rfl) Tryz.underlying91 Pa Tryz.underlying276 Tryz.underlying278 rfl rfl Tryz.underlying9 (by kernel_rfl) (by kernel_rfl)
theorem DU {W:World}(h1:VarReads Tryz.prog W "unicode/utf8.first" firstData) (h2:VarReads Tryz.prog W "unicode/utf8.acceptRanges" acceptData)
  (h3:VarReads Tryz.prog W "internal/strconv.uint64pow10" (tabData .u64 pow10Tab))
  (hE:∃ (a:Addr) (s:ByteArray),W.var? Tryz.prog "strconv.ErrSyntax" = some #[.iface 276 (.pointer (some a))]/\W.cell? a=some (.string s)):∃ p,bt (oF 276 p) W (ll W):=by
 obtain⟨⟨b,o,sp⟩,s,hv,hc⟩:=hE
 have hsp:sp=none:=by
  unfold World.cell? at hc
  cases sp with
  | none=>rfl
  | some k=>split at hc<;>simp at hc
 subst hsp
 have hg:Tryz.prog.globalNamed "strconv.ErrSyntax" = some 1:=by kernel_rfl
 have hcell:W.cell? ⟨1,0,none⟩=some (.iface 276 (.pointer (some ⟨b,o,none⟩))):=by
  have:=World.var?_cell hg hv 0
  simpa using this
 have hG:=vw h1 h2 h3
 refine⟨.gptr b o,fun g o' p hp=>?_,fun g hg'=>?_⟩
 ·unfold oF at hp
  by_cases e0:g=1
  ·subst e0
   rw[if_pos rfl] at hp
   cases o' with
   | zero=>cases hp;exact⟨World.block_lt_of_cell? W _ hcell,_,hcell,rfl,.iface _ _ _ (.gptr _ _)⟩
   | succ o'=>simp at hp
  ·rw[if_neg e0] at hp
   exact hG.1 g o' p hp
 ·unfold oF at hg' ⊢
  by_cases e0:g=1
  ·subst e0
   rw[if_pos rfl]
   unfold World.var? at hv
   rw[hg] at hv
   simp only[Option.bind_some] at hv
   split at hv
   ·rename_i cs T fz hh
    cases hv
    exact⟨_,T,fz,hh,rfl⟩
   ·cases hv
  ·rw[if_neg e0] at hg' ⊢
   exact hG.2 g hg'
theorem DS {W:World}(hS:W.ShapedOpen Tryz.prog)(h1:VarReads Tryz.prog W "unicode/utf8.first" firstData) (h2:VarReads Tryz.prog W "unicode/utf8.acceptRanges" acceptData)
  (h3:VarReads Tryz.prog W "internal/strconv.uint64pow10" (tabData .u64 pow10Tab))
  (hE:∃ (a:Addr) (s:ByteArray),W.var? Tryz.prog "strconv.ErrSyntax" = some #[.iface 276 (.pointer (some a))]/\W.cell? a=some (.string s)):∃ m p,bt (jc m 276 p) W (ll W):=by
 obtain⟨m,hM⟩:=DT hS h1 h2 h3
 obtain⟨p,hP⟩:=DU h1 h2 h3 hE
 refine⟨m,p,fun g o q hq=>?_,fun g hg=>?_⟩
 ·unfold jc at hq
  by_cases e0:g=0
  ·subst e0
   rw[if_pos rfl] at hq
   exact hM.1 0 o q (by unfold ma;rw[if_pos rfl];exact hq)
  ·rw[if_neg e0] at hq
   exact hP.1 g o q hq
 ·unfold jc at hg ⊢
  by_cases e0:g=0
  ·subst e0
   rw[if_pos rfl]
   have h:=hM.2 0 (by unfold ma;rw[if_pos rfl];simp)
   unfold ma at h
   rw[if_pos rfl] at h
   exact h
  ·rw[if_neg e0] at hg ⊢
   exact hP.2 g hg
end Go.Proofs.YtbaaokocnegdoaaGreatDoor
